/- The compiled functions. Printed by a program. -/
import Derived.Test.YtmngkcpobmhnoaaGreatDoorKIds
set_option linter.all false
namespace Go.Proofs.YtmngkcpobmhnoaaGreatDoor.Sim
abbrev Bytes := List UInt8
def signsL : List Bytes := [[46, 46, 46], [60, 60, 61], [62, 62, 61], [45, 62], [43, 43], [45, 45], [60, 60], [62, 62], [60, 61], [62, 61], [61, 61], [33, 61], [38, 38], [124, 124], [42, 61], [47, 61], [37, 61], [43, 61], [45, 61], [38, 61], [94, 61], [124, 61], [35, 35], [91], [93], [40], [41], [123], [125], [46], [38], [42], [43], [45], [126], [33], [47], [37], [60], [62], [94], [124], [63], [58], [59], [61], [44], [35]]
def G_0 : List PV := signsL.map PV.str
def G_1 : List PV := [.ifc]
def G_2 : List PV := [.ifc]
abbrev sgnG := G_0
theorem G_0_rd : readAt G_0 0 (some 48) = some (.agg G_0) := by rfl
theorem G_0_eq : G_0 = signsL.map PV.str := by rfl
theorem G_1_rd : G_1[0]? = some .ifc := by rfl
theorem G_2_rd : G_2[0]? = some .ifc := by rfl
theorem GR : type_of% (And.intro G_0_rd (And.intro G_1_rd (And.intro G_2_rd (trivial)))) := And.intro G_0_rd (And.intro G_1_rd (And.intro G_2_rd (trivial)))
def J_burinlaw05_CondSmall_1 : RCode := (.seq (.region [⟨(some 70), (.mov (.tmp 0)), .none⟩,
  ⟨(some 71), (.mov (.tmp 1)), .none⟩,
  ⟨(some 72), (.bin .lss .none (.tmp 70) (.tmp 71)), .none⟩] []) (.cond (.tmp 72) (.region [⟨(some 17), (.mov (.const (.int .u64 1))), .none⟩] []) .skip))
def R_burinlaw05_CondSmall : RFunc := ⟨2, 108, [(.tmp 4)], (.seq (.region [⟨(some 4), (.mov (.const (.bool false))), .none⟩] []) (.seq (.region [⟨(some 18), (.pcall 21 []), .none⟩,
  ⟨(some 5), (.mov (.tmp 18)), .none⟩] []) (.seq (.region [⟨(some 19), (.mov (.tmp 0)), .none⟩,
  ⟨(some 20), (.bin .and .none (.tmp 19) (.const (.int .i64 1048575))), .none⟩,
  ⟨(some 0), (.mov (.tmp 20)), .none⟩] []) (.seq (.region [⟨(some 21), (.mov (.tmp 1)), .none⟩,
  ⟨(some 22), (.bin .and .none (.tmp 21) (.const (.int .i64 1048575))), .none⟩,
  ⟨(some 1), (.mov (.tmp 22)), .none⟩] []) (.seq (.region [⟨(some 23), (.mov (.tmp 0)), .none⟩,
  ⟨(some 24), (.pcall 28 [(.tmp 23)]), .none⟩,
  ⟨(some 6), (.mov (.tmp 24)), .none⟩] []) (.seq (.region [⟨(some 25), (.mov (.tmp 1)), .none⟩,
  ⟨(some 26), (.pcall 28 [(.tmp 25)]), .none⟩,
  ⟨(some 7), (.mov (.tmp 26)), .none⟩] []) (.seq (.region [⟨(some 28), (.mov (.tmp 6)), .none⟩,
  ⟨(some 29), (.bin .add .none (.tmp 28) (.const (.str [43]))), .none⟩,
  ⟨(some 30), (.mov (.tmp 7)), .none⟩,
  ⟨(some 31), (.bin .add .none (.tmp 29) (.tmp 30)), .none⟩,
  ⟨(some 32), (.pcall 25 [(.tmp 31)]), .none⟩,
  ⟨(some 33), (.pcall 22 [(.tmp 32)]), .none⟩,
  ⟨(some 27), (.mov (.tmp 33)), .none⟩,
  ⟨(some 34), (.extract 0 (.tmp 27)), .none⟩,
  ⟨(some 35), (.extract 1 (.tmp 27)), .none⟩,
  ⟨(some 36), (.extract 2 (.tmp 27)), .none⟩,
  ⟨(some 8), (.mov (.tmp 34)), .none⟩,
  ⟨(some 9), (.mov (.tmp 35)), .none⟩,
  ⟨(some 10), (.mov (.tmp 36)), .none⟩] []) (.seq (.region [⟨(some 38), (.mov (.tmp 6)), .none⟩,
  ⟨(some 39), (.bin .add .none (.tmp 38) (.const (.str [60]))), .none⟩,
  ⟨(some 40), (.mov (.tmp 7)), .none⟩,
  ⟨(some 41), (.bin .add .none (.tmp 39) (.tmp 40)), .none⟩,
  ⟨(some 42), (.pcall 25 [(.tmp 41)]), .none⟩,
  ⟨(some 43), (.pcall 22 [(.tmp 42)]), .none⟩,
  ⟨(some 37), (.mov (.tmp 43)), .none⟩,
  ⟨(some 44), (.extract 0 (.tmp 37)), .none⟩,
  ⟨(some 45), (.extract 1 (.tmp 37)), .none⟩,
  ⟨(some 46), (.extract 2 (.tmp 37)), .none⟩,
  ⟨(some 11), (.mov (.tmp 44)), .none⟩,
  ⟨(some 12), (.mov (.tmp 45)), .none⟩,
  ⟨(some 13), (.mov (.tmp 46)), .none⟩] []) (.seq (.region (⟨(some 48), (.mov (.tmp 6)), .none⟩ ::
  ⟨(some 49), (.bin .add .none (.tmp 48) (.const (.str [42]))), .none⟩ ::
  ⟨(some 50), (.mov (.tmp 7)), .none⟩ ::
  ⟨(some 51), (.bin .add .none (.tmp 49) (.tmp 50)), .none⟩ ::
  ⟨(some 52), (.bin .add .none (.tmp 51) (.const (.str [45]))), .none⟩ ::
  ⟨(some 53), (.mov (.tmp 7)), .none⟩ ::
  ⟨(some 54), (.bin .add .none (.tmp 52) (.tmp 53)), .none⟩ ::
  ⟨(some 55), (.bin .add .none (.tmp 54) (.const (.str [42]))), .none⟩ ::
  ⟨(some 56), (.mov (.tmp 6)), .none⟩ ::
  ⟨(some 57), (.bin .add .none (.tmp 55) (.tmp 56)), .none⟩ ::
  ⟨(some 58), (.bin .add .none (.tmp 57) (.const (.str [43, 32]))), .none⟩ ::
  ⟨(some 59), (.mov (.tmp 7)), .none⟩ ::
  ⟨(some 60), (.bin .add .none (.tmp 58) (.tmp 59)), .none⟩ ::
  ⟨(some 61), (.bin .add .none (.tmp 60) (.const (.str [37, 40]))), .none⟩ ::
  ⟨(some 62), (.mov (.tmp 6)), .none⟩ ::
  ⟨(some 63), (.bin .add .none (.tmp 61) (.tmp 62)), .none⟩ ::
  ⟨(some 64), (.bin .add .none (.tmp 63) (.const (.str [43, 49, 41]))), .none⟩ ::
  ⟨(some 65), (.pcall 25 [(.tmp 64)]), .none⟩ ::
  ⟨(some 66), (.pcall 22 [(.tmp 65)]), .none⟩ ::
  ⟨(some 47), (.mov (.tmp 66)), .none⟩ ::
  ⟨(some 67), (.extract 0 (.tmp 47)), .none⟩ ::
  ⟨(some 68), (.extract 1 (.tmp 47)), .none⟩ ::
  ⟨(some 69), (.extract 2 (.tmp 47)), .none⟩ ::
  ⟨(some 14), (.mov (.tmp 67)), .none⟩ ::
  ⟨(some 15), (.mov (.tmp 68)), .none⟩ ::
  ⟨(some 16), (.mov (.tmp 69)), .none⟩ :: []) []) (.seq (.region [⟨(some 17), (.mov (.const (.int .u64 0))), .none⟩] []) (.seq J_burinlaw05_CondSmall_1 (.seq (.region (⟨(some 73), (.mov (.tmp 5)), .none⟩ ::
  ⟨(some 74), (.mov (.tmp 73)), .none⟩ ::
  ⟨(some 75), (.mov (.tmp 10)), (some (74, true))⟩ ::
  ⟨(some 76), (.bin .eql .none (.tmp 75) (.const (.int .i64 0))), (some (74, true))⟩ ::
  ⟨(some 77), (.pick (.tmp 74) (.tmp 76) (.const (.bool false))), .none⟩ ::
  ⟨(some 78), (.mov (.tmp 77)), .none⟩ ::
  ⟨(some 79), (.mov (.tmp 13)), (some (78, true))⟩ ::
  ⟨(some 80), (.bin .eql .none (.tmp 79) (.const (.int .i64 0))), (some (78, true))⟩ ::
  ⟨(some 81), (.pick (.tmp 78) (.tmp 80) (.const (.bool false))), .none⟩ ::
  ⟨(some 82), (.mov (.tmp 81)), .none⟩ ::
  ⟨(some 83), (.mov (.tmp 16)), (some (82, true))⟩ ::
  ⟨(some 84), (.bin .eql .none (.tmp 83) (.const (.int .i64 0))), (some (82, true))⟩ ::
  ⟨(some 85), (.pick (.tmp 82) (.tmp 84) (.const (.bool false))), .none⟩ ::
  ⟨(some 86), (.mov (.tmp 85)), .none⟩ ::
  ⟨(some 87), (.mov (.tmp 8)), (some (86, true))⟩ ::
  ⟨(some 88), (.mov (.tmp 0)), (some (86, true))⟩ ::
  ⟨(some 89), (.mov (.tmp 1)), (some (86, true))⟩ ::
  ⟨(some 90), (.bin .add .none (.tmp 88) (.tmp 89)), (some (86, true))⟩ ::
  ⟨(some 91), (.conv (.int .u64) (.tmp 90)), (some (86, true))⟩ ::
  ⟨(some 92), (.bin .eql .none (.tmp 87) (.tmp 91)), (some (86, true))⟩ ::
  ⟨(some 93), (.pick (.tmp 86) (.tmp 92) (.const (.bool false))), .none⟩ ::
  ⟨(some 94), (.mov (.tmp 93)), .none⟩ ::
  ⟨(some 95), (.mov (.tmp 11)), (some (94, true))⟩ ::
  ⟨(some 96), (.mov (.tmp 17)), (some (94, true))⟩ ::
  ⟨(some 97), (.bin .eql .none (.tmp 95) (.tmp 96)), (some (94, true))⟩ ::
  ⟨(some 98), (.pick (.tmp 94) (.tmp 97) (.const (.bool false))), .none⟩ ::
  ⟨(some 99), (.mov (.tmp 98)), .none⟩ ::
  ⟨(some 100), (.mov (.tmp 14)), (some (99, true))⟩ ::
  ⟨(some 101), (.mov (.tmp 1)), (some (99, true))⟩ ::
  ⟨(some 102), (.mov (.tmp 0)), (some (99, true))⟩ ::
  ⟨(some 103), (.bin .add .none (.tmp 102) (.const (.int .i64 1))), (some (99, true))⟩ ::
  ⟨(some 104), (.bin .rem .none (.tmp 101) (.tmp 103)), (some (99, true))⟩ ::
  ⟨(some 105), (.conv (.int .u64) (.tmp 104)), (some (99, true))⟩ ::
  ⟨(some 106), (.bin .eql .none (.tmp 100) (.tmp 105)), (some (99, true))⟩ ::
  ⟨(some 107), (.pick (.tmp 99) (.tmp 106) (.const (.bool false))), .none⟩ ::
  ⟨(some 4), (.mov (.tmp 107)), .none⟩ :: []) []) .ret))))))))))))⟩
def R_burinlaw05_shown : RFunc := ⟨0, 41, [(.tmp 0)], (.seq (.region [⟨(some 0), (.mov (.const (.bool false))), .none⟩] []) (.seq (.region [⟨(some 8), (.pcall 25 [(.const (.str [49, 32, 43, 32, 50, 32, 42, 32, 51, 32, 61, 61, 32, 55, 32, 38, 38, 32, 33, 88]))]), .none⟩,
  ⟨(some 9), (.pcall 22 [(.tmp 8)]), .none⟩,
  ⟨(some 7), (.mov (.tmp 9)), .none⟩,
  ⟨(some 10), (.extract 0 (.tmp 7)), .none⟩,
  ⟨(some 11), (.extract 1 (.tmp 7)), .none⟩,
  ⟨(some 12), (.extract 2 (.tmp 7)), .none⟩,
  ⟨(some 1), (.mov (.tmp 10)), .none⟩,
  ⟨(some 2), (.mov (.tmp 11)), .none⟩,
  ⟨(some 3), (.mov (.tmp 12)), .none⟩] []) (.seq (.region [⟨(some 14), (.pcall 25 [(.const (.str [45, 49, 32, 62, 32, 48, 117, 32, 63, 32, 53, 32, 58, 32, 49, 32, 47, 32, 48]))]), .none⟩,
  ⟨(some 15), (.pcall 22 [(.tmp 14)]), .none⟩,
  ⟨(some 13), (.mov (.tmp 15)), .none⟩,
  ⟨(some 16), (.extract 0 (.tmp 13)), .none⟩,
  ⟨(some 17), (.extract 1 (.tmp 13)), .none⟩,
  ⟨(some 18), (.extract 2 (.tmp 13)), .none⟩,
  ⟨(some 4), (.mov (.tmp 16)), .none⟩,
  ⟨(some 5), (.mov (.tmp 17)), .none⟩,
  ⟨(some 6), (.mov (.tmp 18)), .none⟩] []) (.seq (.region (⟨(some 19), (.mov (.tmp 3)), .none⟩ ::
  ⟨(some 20), (.bin .eql .none (.tmp 19) (.const (.int .i64 0))), .none⟩ ::
  ⟨(some 21), (.mov (.tmp 20)), .none⟩ ::
  ⟨(some 22), (.mov (.tmp 6)), (some (21, true))⟩ ::
  ⟨(some 23), (.bin .eql .none (.tmp 22) (.const (.int .i64 0))), (some (21, true))⟩ ::
  ⟨(some 24), (.pick (.tmp 21) (.tmp 23) (.const (.bool false))), .none⟩ ::
  ⟨(some 25), (.mov (.tmp 24)), .none⟩ ::
  ⟨(some 26), (.mov (.tmp 1)), (some (25, true))⟩ ::
  ⟨(some 27), (.bin .eql .none (.tmp 26) (.const (.int .u64 1))), (some (25, true))⟩ ::
  ⟨(some 28), (.pick (.tmp 25) (.tmp 27) (.const (.bool false))), .none⟩ ::
  ⟨(some 29), (.mov (.tmp 28)), .none⟩ ::
  ⟨(some 30), (.mov (.tmp 2)), (some (29, true))⟩ ::
  ⟨(some 31), (.un .not (.tmp 30)), (some (29, true))⟩ ::
  ⟨(some 32), (.pick (.tmp 29) (.tmp 31) (.const (.bool false))), .none⟩ ::
  ⟨(some 33), (.mov (.tmp 32)), .none⟩ ::
  ⟨(some 34), (.mov (.tmp 4)), (some (33, true))⟩ ::
  ⟨(some 35), (.bin .eql .none (.tmp 34) (.const (.int .u64 5))), (some (33, true))⟩ ::
  ⟨(some 36), (.pick (.tmp 33) (.tmp 35) (.const (.bool false))), .none⟩ ::
  ⟨(some 37), (.mov (.tmp 36)), .none⟩ ::
  ⟨(some 38), (.mov (.tmp 5)), (some (37, true))⟩ ::
  ⟨(some 39), (.un .not (.tmp 38)), (some (37, true))⟩ ::
  ⟨(some 40), (.pick (.tmp 37) (.tmp 39) (.const (.bool false))), .none⟩ ::
  ⟨(some 0), (.mov (.tmp 40)), .none⟩ :: []) []) .ret))))⟩
def R_cond_Eval : RFunc := ⟨1, 28, [(.tmp 2), (.tmp 3), (.tmp 4)], (.seq (.region [⟨(some 2), (.mov (.const (.int .u64 0))), .none⟩,
  ⟨(some 3), (.mov (.const (.bool false))), .none⟩,
  ⟨(some 4), (.mov (.const (.int .i64 0))), .none⟩] []) (.seq (.region [⟨(some 7), (.mov (.tmp 0)), .none⟩,
  ⟨(some 8), (.build [(.slice .nil 0 []), (.bool false)] [(0, (1, (.tmp 7)))]), .none⟩,
  ⟨(some 9), (.box 68 (.tmp 8)), .none⟩,
  ⟨(some 5), (.mov (.tmp 9)), .none⟩] []) (.seq (.region [⟨(some 10), (.mov (.tmp 5)), .none⟩,
  ⟨(some 11), (.call (.const (.func 38 [] [])) [(.tmp 10), (.const (.bool true))]), .none⟩,
  ⟨(some 6), (.alloc 70 [(.int .u64 0), (.bool false)]), .none⟩,
  ⟨.none, (.store 2 (.tmp 6) (.tmp 11)), .none⟩] []) (.seq (.seq (.region [⟨(some 12), (.mov (.tmp 5)), .none⟩,
  ⟨(some 13), (.nilck (.tmp 12)), .none⟩,
  ⟨(some 14), (.faddr 1 (.tmp 13)), .none⟩,
  ⟨(some 15), (.load .none (.tmp 14)), .none⟩,
  ⟨(some 16), (.mov (.tmp 15)), .none⟩,
  ⟨(some 17), (.mov (.tmp 5)), (some (16, false))⟩,
  ⟨(some 18), (.nilck (.tmp 17)), (some (16, false))⟩,
  ⟨(some 19), (.faddr 0 (.tmp 18)), (some (16, false))⟩,
  ⟨(some 20), (.load .none (.tmp 19)), (some (16, false))⟩,
  ⟨(some 21), (.len false (.tmp 20)), (some (16, false))⟩,
  ⟨(some 22), (.bin .gtr .none (.tmp 21) (.const (.int .i64 0))), (some (16, false))⟩,
  ⟨(some 23), (.pick (.tmp 16) (.const (.bool true)) (.tmp 22)), .none⟩] []) (.cond (.tmp 23) (.seq (.region [⟨(some 2), (.mov (.const (.int .u64 0))), .none⟩,
  ⟨(some 3), (.mov (.const (.bool false))), .none⟩,
  ⟨(some 4), (.mov (.const (.int .i64 50))), .none⟩] []) .ret) .skip)) (.seq (.region [⟨(some 24), (.faddr 0 (.tmp 6)), .none⟩,
  ⟨(some 25), (.load .none (.tmp 24)), .none⟩,
  ⟨(some 26), (.faddr 1 (.tmp 6)), .none⟩,
  ⟨(some 27), (.load .none (.tmp 26)), .none⟩,
  ⟨(some 2), (.mov (.tmp 25)), .none⟩,
  ⟨(some 3), (.mov (.tmp 27)), .none⟩,
  ⟨(some 4), (.mov (.const (.int .i64 0))), .none⟩] []) .ret)))))⟩
def A_token_Lex_1 : RCode := (.region [⟨(some 11), (.alloc 41 [(.int .i64 0), (.str []), (.str []), (.int .i64 0), (.bool false), (.bool false)]), .none⟩,
  ⟨.none, (.store 6 (.tmp 11) (.tmp 23)), .none⟩] [])
def Y_token_Lex_1 : RCode := (.block 3 (.seq (.block 4 (.seq (.region [⟨(some 25), (.faddr 1 (.tmp 11)), .none⟩,
  ⟨(some 26), (.load .none (.tmp 25)), .none⟩,
  ⟨(some 27), (.bin .eql .none (.tmp 26) (.const (.str []))), .none⟩,
  ⟨(some 24), (.mov (.tmp 27)), .none⟩] []) (.cond (.tmp 24) (.seq (.region [⟨(some 28), (.faddr 0 (.tmp 10)), .none⟩,
  ⟨(some 29), (.load .none (.tmp 28)), .none⟩,
  ⟨.none, (.store 1 (.tmp 6) (.const (.int .i64 21))), .none⟩,
  ⟨.none, (.store 1 (.tmp 7) (.tmp 29)), .none⟩] [⟨(.tmp 6), 1, (.tmp 28), 1⟩]) (.exit 0)) (.seq (.region [⟨(some 31), (.load .none (.tmp 5)), .none⟩,
  ⟨(some 32), (.len false (.tmp 31)), .none⟩,
  ⟨(some 33), (.bin .eql .none (.tmp 32) (.const (.int .i64 20000))), .none⟩,
  ⟨(some 30), (.mov (.tmp 33)), .none⟩] []) (.cond (.tmp 30) (.seq (.region [⟨(some 34), (.faddr 0 (.tmp 10)), .none⟩,
  ⟨(some 35), (.load .none (.tmp 34)), .none⟩,
  ⟨.none, (.store 1 (.tmp 6) (.const (.int .i64 22))), .none⟩,
  ⟨.none, (.store 1 (.tmp 7) (.tmp 35)), .none⟩] [⟨(.tmp 6), 1, (.tmp 34), 1⟩]) (.exit 0)) .skip))))) (.region [⟨(some 36), (.load .none (.tmp 5)), .none⟩,
  ⟨(some 37), (.load (some 6) (.tmp 11)), .none⟩,
  ⟨(some 38), (.bslice 6 1 56 [(.int .i64 0), (.str []), (.str []), (.int .i64 0), (.bool false), (.bool false)] [(0, (6, (.tmp 37)))]), .none⟩,
  ⟨(some 39), (.app 6 56 false (.tmp 36) (.tmp 38)), .none⟩,
  ⟨.none, (.store 1 (.tmp 5) (.tmp 39)), .none⟩] [])))
def L_token_Lex_1 : RCode := (.seq (.region [⟨(some 17), (.bin .lss .none (.tmp 16) (.tmp 15)), .none⟩] []) (.seq (.cond (.tmp 17) .skip (.exit 0)) (.seq (.block 1 (.seq (.region [⟨(some 18), (.iaddr 2 (.tmp 14) (.tmp 16)), .none⟩,
  ⟨(some 19), (.load (some 2) (.tmp 18)), .none⟩,
  ⟨(some 10), (.alloc 38 [(.int .i64 0), (.str [])]), .none⟩,
  ⟨.none, (.store 2 (.tmp 10) (.tmp 19)), .none⟩] []) (.seq (.region [⟨(some 20), (.mov (.tmp 8)), .none⟩,
  ⟨(some 21), (.load (some 2) (.tmp 10)), .none⟩,
  ⟨(some 22), (.call (.const (.func 40 [] [])) [(.tmp 20), (.tmp 21)]), .none⟩] []) (.block 2 (.rangeFunc (.tmp 22) [23] A_token_Lex_1 Y_token_Lex_1))))) (.region [⟨(some 40), (.bin .add .none (.tmp 16) (.const (.int .i64 1))), .none⟩,
  ⟨(some 16), (.mov (.tmp 40)), .none⟩] []))))
def J_token_Lex_1 : RCode := (.seq (.region [⟨(some 41), (.load .none (.tmp 6)), .none⟩,
  ⟨(some 42), (.bin .eql .none (.tmp 41) (.const (.int .i64 0))), .none⟩,
  ⟨(some 43), (.mov (.tmp 42)), .none⟩,
  ⟨(some 44), (.mov (.tmp 8)), (some (43, true))⟩,
  ⟨(some 45), (.nilck (.tmp 44)), (some (43, true))⟩,
  ⟨(some 46), (.faddr 0 (.tmp 45)), (some (43, true))⟩,
  ⟨(some 47), (.load .none (.tmp 46)), (some (43, true))⟩,
  ⟨(some 48), (.pick (.tmp 43) (.tmp 47) (.const (.bool false))), .none⟩] []) (.cond (.tmp 48) (.region [⟨(some 49), (.mov (.tmp 8)), .none⟩,
  ⟨(some 50), (.nilck (.tmp 49)), .none⟩,
  ⟨(some 51), (.faddr 1 (.tmp 50)), .none⟩,
  ⟨(some 52), (.load .none (.tmp 51)), .none⟩,
  ⟨.none, (.store 1 (.tmp 6) (.const (.int .i64 20))), .none⟩,
  ⟨.none, (.store 1 (.tmp 7) (.tmp 52)), .none⟩] [⟨(.tmp 6), 1, (.tmp 51), 1⟩]) .skip))
def R_token_Lex : RFunc := ⟨1, 58, [(.tmp 2), (.tmp 3), (.tmp 4)], (.seq (.region [⟨(some 2), (.mov (.const (.slice .nil 0 []))), .none⟩,
  ⟨(some 3), (.mov (.const (.int .i64 0))), .none⟩,
  ⟨(some 4), (.mov (.const (.int .i64 0))), .none⟩] []) (.scope (.seq (.region [⟨(some 5), (.alloc 22 [(.slice .nil 0 [])]), .none⟩] []) (.seq (.region [⟨(some 6), (.alloc 25 [(.int .i64 0)]), .none⟩,
  ⟨(some 7), (.alloc 3 [(.int .i64 0)]), .none⟩,
  ⟨.none, (.store 1 (.tmp 6) (.const (.int .i64 0))), .none⟩,
  ⟨.none, (.store 1 (.tmp 7) (.const (.int .i64 0))), .none⟩] []) (.seq (.region [⟨(some 12), (.build [(.bool false), (.int .i64 0), (.bool false), (.bool false)] []), .none⟩,
  ⟨(some 13), (.box 80 (.tmp 12)), .none⟩,
  ⟨(some 8), (.mov (.tmp 13)), .none⟩] []) (.seq .skip (.seq (.seq (.region [⟨(some 14), (.mov (.tmp 0)), .none⟩,
  ⟨(some 15), (.len false (.tmp 14)), .none⟩,
  ⟨(some 16), (.mov (.const (.int .i64 0))), .none⟩] []) (.block 0 (.loop L_token_Lex_1))) (.seq J_token_Lex_1 (.seq (.seq (.region [⟨(some 53), (.load .none (.tmp 6)), .none⟩,
  ⟨(some 54), (.bin .neq .none (.tmp 53) (.const (.int .i64 0))), .none⟩] []) (.cond (.tmp 54) (.seq (.region [⟨(some 55), (.load .none (.tmp 6)), .none⟩,
  ⟨(some 56), (.load .none (.tmp 7)), .none⟩,
  ⟨(some 2), (.mov (.const (.slice .nil 0 []))), .none⟩,
  ⟨(some 3), (.mov (.tmp 55)), .none⟩,
  ⟨(some 4), (.mov (.tmp 56)), .none⟩] []) .ret) .skip)) (.seq (.region [⟨(some 57), (.load .none (.tmp 5)), .none⟩,
  ⟨(some 2), (.mov (.tmp 57)), .none⟩,
  ⟨(some 3), (.mov (.const (.int .i64 0))), .none⟩,
  ⟨(some 4), (.mov (.const (.int .i64 0))), .none⟩] []) .ret))))))))))⟩
def R_burinlaw05_lexed : RFunc := ⟨1, 15, [(.tmp 2)], (.seq (.region [⟨(some 2), (.mov (.const (.slice .nil 0 []))), .none⟩] []) (.seq (.region [⟨(some 7), (.mov (.tmp 0)), .none⟩,
  ⟨(some 8), (.build [(.int .i64 0), (.str [])] [(0, (1, (.const (.int .i64 1)))), (1, (1, (.tmp 7)))]), .none⟩,
  ⟨(some 9), (.bslice 2 1 24 [(.int .i64 0), (.str [])] [(0, (2, (.tmp 8)))]), .none⟩,
  ⟨(some 10), (.pcall 24 [(.tmp 9)]), .none⟩,
  ⟨(some 6), (.mov (.tmp 10)), .none⟩,
  ⟨(some 11), (.extract 0 (.tmp 6)), .none⟩,
  ⟨(some 12), (.extract 1 (.tmp 6)), .none⟩,
  ⟨(some 13), (.extract 2 (.tmp 6)), .none⟩,
  ⟨(some 3), (.mov (.tmp 11)), .none⟩,
  ⟨(some 4), (.mov (.tmp 12)), .none⟩,
  ⟨(some 5), (.mov (.tmp 13)), .none⟩] []) (.seq (.region [⟨(some 14), (.mov (.tmp 3)), .none⟩,
  ⟨(some 2), (.mov (.tmp 14)), .none⟩] []) .ret)))⟩
def L_burinlaw05_digits_1 : RCode := (.seq (.seq (.region [⟨(some 4), (.mov (.tmp 3)), .none⟩,
  ⟨(some 5), (.bin .eql .none (.tmp 4) (.const (.str []))), .none⟩,
  ⟨(some 6), (.mov (.tmp 5)), .none⟩,
  ⟨(some 7), (.mov (.tmp 0)), (some (6, false))⟩,
  ⟨(some 8), (.bin .gtr .none (.tmp 7) (.const (.int .i64 0))), (some (6, false))⟩,
  ⟨(some 9), (.pick (.tmp 6) (.const (.bool true)) (.tmp 8)), .none⟩] []) (.cond (.tmp 9) .skip (.exit 0))) (.block 1 (.seq (.region [⟨(some 10), (.mov (.tmp 0)), .none⟩,
  ⟨(some 11), (.bin .rem .none (.tmp 10) (.const (.int .i64 10))), .none⟩,
  ⟨(some 12), (.bin .add .none (.const (.int .i64 48)) (.tmp 11)), .none⟩,
  ⟨(some 13), (.conv (.int .u8) (.tmp 12)), .none⟩,
  ⟨(some 14), (.bslice 1 1 1 [(.int .u8 0)] [(0, (1, (.tmp 13)))]), .none⟩,
  ⟨(some 15), (.conv .b2s (.tmp 14)), .none⟩,
  ⟨(some 16), (.mov (.tmp 3)), .none⟩,
  ⟨(some 17), (.bin .add .none (.tmp 15) (.tmp 16)), .none⟩,
  ⟨(some 3), (.mov (.tmp 17)), .none⟩] []) (.region [⟨(some 18), (.mov (.tmp 0)), .none⟩,
  ⟨(some 19), (.bin .quo .none (.tmp 18) (.const (.int .i64 10))), .none⟩,
  ⟨(some 0), (.mov (.tmp 19)), .none⟩] []))))
def R_burinlaw05_digits : RFunc := ⟨1, 21, [(.tmp 2)], (.seq (.region [⟨(some 2), (.mov (.const (.str []))), .none⟩] []) (.seq (.region [⟨(some 3), (.mov (.const (.str []))), .none⟩] []) (.seq (.block 0 (.loop L_burinlaw05_digits_1)) (.seq (.region [⟨(some 20), (.mov (.tmp 3)), .none⟩,
  ⟨(some 2), (.mov (.tmp 20)), .none⟩] []) .ret))))⟩
def J_cond_Number_2 : RCode := (.seq (.region [⟨(some 15), (.mov (.tmp 0)), .none⟩,
  ⟨(some 16), (.ocall 41 [(.tmp 15), (.const (.str [48, 120]))]), .none⟩,
  ⟨(some 14), (.mov (.tmp 16)), .none⟩] []) (.cond (.tmp 14) .skip (.region [⟨(some 17), (.mov (.tmp 0)), .none⟩,
  ⟨(some 18), (.ocall 41 [(.tmp 17), (.const (.str [48, 88]))]), .none⟩,
  ⟨(some 14), (.mov (.tmp 18)), .none⟩] [])))
def J_cond_Number_1 : RCode := (.block 0 (.seq J_cond_Number_2 (.cond (.tmp 14) (.region [⟨(some 19), (.mov (.tmp 0)), .none⟩,
  ⟨(some 20), (.sliceS (.tmp 19) (some (.const (.int .i64 2))) .none), .none⟩,
  ⟨(some 5), (.mov (.const (.int .i64 16))), .none⟩,
  ⟨(some 6), (.mov (.const (.str [48, 49, 50, 51, 52, 53, 54, 55, 56, 57, 97, 98, 99, 100, 101, 102, 65, 66, 67, 68, 69, 70]))), .none⟩,
  ⟨(some 7), (.mov (.tmp 20)), .none⟩] []) (.seq (.region [⟨(some 22), (.mov (.tmp 0)), .none⟩,
  ⟨(some 23), (.ocall 41 [(.tmp 22), (.const (.str [48]))]), .none⟩,
  ⟨(some 21), (.mov (.tmp 23)), .none⟩] []) (.cond (.tmp 21) (.region [⟨(some 5), (.mov (.const (.int .i64 8))), .none⟩,
  ⟨(some 6), (.mov (.const (.str [48, 49, 50, 51, 52, 53, 54, 55]))), .none⟩] []) .skip)))))
def J_cond_Number_3 : RCode := (.seq (.region [⟨(some 45), (.mov (.tmp 9)), .none⟩,
  ⟨(some 46), (.un .not (.tmp 45)), .none⟩,
  ⟨(some 47), (.mov (.tmp 46)), .none⟩,
  ⟨(some 48), (.mov (.tmp 12)), (some (47, false))⟩,
  ⟨(some 49), (.bin .neq .iface (.tmp 48) (.const .nilIface)), (some (47, false))⟩,
  ⟨(some 50), (.pick (.tmp 47) (.const (.bool true)) (.tmp 49)), .none⟩] []) (.cond (.tmp 50) (.seq (.region [⟨(some 2), (.mov (.const (.int .u64 0))), .none⟩,
  ⟨(some 3), (.mov (.const (.bool false))), .none⟩,
  ⟨(some 4), (.mov (.const (.int .i64 50))), .none⟩] []) .ret) .skip))
def R_cond_Number : RFunc := ⟨1, 62, [(.tmp 2), (.tmp 3), (.tmp 4)], (.seq (.region [⟨(some 2), (.mov (.const (.int .u64 0))), .none⟩,
  ⟨(some 3), (.mov (.const (.bool false))), .none⟩,
  ⟨(some 4), (.mov (.const (.int .i64 0))), .none⟩] []) (.seq (.region [⟨(some 5), (.mov (.const (.int .i64 10))), .none⟩,
  ⟨(some 6), (.mov (.const (.str [48, 49, 50, 51, 52, 53, 54, 55, 56, 57]))), .none⟩] []) (.seq (.region [⟨(some 13), (.mov (.tmp 0)), .none⟩,
  ⟨(some 7), (.mov (.tmp 13)), .none⟩] []) (.seq J_cond_Number_1 (.seq (.region [⟨(some 24), (.mov (.tmp 7)), .none⟩,
  ⟨(some 25), (.mov (.tmp 6)), .none⟩,
  ⟨(some 26), (.ocall 42 [(.tmp 24), (.tmp 25)]), .none⟩,
  ⟨(some 8), (.mov (.tmp 26)), .none⟩] []) (.seq (.region [⟨(some 27), (.mov (.tmp 7)), .none⟩,
  ⟨(some 28), (.mov (.tmp 7)), .none⟩,
  ⟨(some 29), (.len true (.tmp 28)), .none⟩,
  ⟨(some 30), (.mov (.tmp 8)), .none⟩,
  ⟨(some 31), (.len true (.tmp 30)), .none⟩,
  ⟨(some 32), (.bin .sub .none (.tmp 29) (.tmp 31)), .none⟩,
  ⟨(some 33), (.sliceS (.tmp 27) .none (some (.tmp 32))), .none⟩,
  ⟨(some 7), (.mov (.tmp 33)), .none⟩] []) (.seq (.region [⟨(some 35), (.mov (.tmp 8)), .none⟩,
  ⟨(some 36), (.pcall 43 [(.tmp 35)]), .none⟩,
  ⟨(some 34), (.mov (.tmp 36)), .none⟩,
  ⟨(some 37), (.extract 0 (.tmp 34)), .none⟩,
  ⟨(some 38), (.extract 1 (.tmp 34)), .none⟩,
  ⟨(some 9), (.mov (.tmp 37)), .none⟩,
  ⟨(some 10), (.mov (.tmp 38)), .none⟩] []) (.seq (.region [⟨(some 40), (.mov (.tmp 7)), .none⟩,
  ⟨(some 41), (.mov (.tmp 5)), .none⟩,
  ⟨(some 42), (.pcall 44 [(.tmp 40), (.tmp 41), (.const (.int .i64 64))]), .none⟩,
  ⟨(some 39), (.mov (.tmp 42)), .none⟩,
  ⟨(some 43), (.extract 0 (.tmp 39)), .none⟩,
  ⟨(some 44), (.extract 1 (.tmp 39)), .none⟩,
  ⟨(some 11), (.mov (.tmp 43)), .none⟩,
  ⟨(some 12), (.mov (.tmp 44)), .none⟩] []) (.seq J_cond_Number_3 (.seq (.region [⟨(some 51), (.mov (.tmp 11)), .none⟩,
  ⟨(some 52), (.mov (.tmp 10)), .none⟩,
  ⟨(some 53), (.mov (.tmp 52)), .none⟩,
  ⟨(some 54), (.mov (.tmp 5)), (some (53, false))⟩,
  ⟨(some 55), (.bin .neq .none (.tmp 54) (.const (.int .i64 10))), (some (53, false))⟩,
  ⟨(some 56), (.mov (.tmp 55)), (some (53, false))⟩,
  ⟨(some 57), (.mov (.tmp 11)), (some (56, true))⟩,
  ⟨(some 58), (.ocall 45 [(.tmp 57)]), (some (56, true))⟩,
  ⟨(some 59), (.bin .eql .none (.tmp 58) (.const (.int .i64 64))), (some (56, true))⟩,
  ⟨(some 60), (.pick (.tmp 56) (.tmp 59) (.const (.bool false))), (some (53, false))⟩,
  ⟨(some 61), (.pick (.tmp 53) (.const (.bool true)) (.tmp 60)), .none⟩,
  ⟨(some 2), (.mov (.tmp 51)), .none⟩,
  ⟨(some 3), (.mov (.tmp 61)), .none⟩,
  ⟨(some 4), (.mov (.const (.int .i64 0))), .none⟩] []) .ret))))))))))⟩
def J_cond_eval_choice_1 : RCode := (.region [⟨(some 16), (.mov (.tmp 0)), .none⟩,
  ⟨(some 17), (.mov (.tmp 1)), .none⟩,
  ⟨(some 18), (.mov (.tmp 17)), .none⟩,
  ⟨(some 19), (.faddr 0 (.tmp 5)), (some (18, true))⟩,
  ⟨(some 20), (.load .none (.tmp 19)), (some (18, true))⟩,
  ⟨(some 21), (.bin .neq .none (.tmp 20) (.const (.int .u64 0))), (some (18, true))⟩,
  ⟨(some 22), (.pick (.tmp 18) (.tmp 21) (.const (.bool false))), .none⟩,
  ⟨(some 23), (.call (.const (.func 38 [] [])) [(.tmp 16), (.tmp 22)]), .none⟩,
  ⟨(some 6), (.alloc 70 [(.int .u64 0), (.bool false)]), .none⟩,
  ⟨.none, (.store 2 (.tmp 6) (.tmp 23)), .none⟩] [])
def J_cond_eval_choice_2 : RCode := (.region [⟨(some 29), (.mov (.tmp 0)), .none⟩,
  ⟨(some 30), (.mov (.tmp 1)), .none⟩,
  ⟨(some 31), (.mov (.tmp 30)), .none⟩,
  ⟨(some 32), (.faddr 0 (.tmp 5)), (some (31, true))⟩,
  ⟨(some 33), (.load .none (.tmp 32)), (some (31, true))⟩,
  ⟨(some 34), (.bin .eql .none (.tmp 33) (.const (.int .u64 0))), (some (31, true))⟩,
  ⟨(some 35), (.pick (.tmp 31) (.tmp 34) (.const (.bool false))), .none⟩,
  ⟨(some 36), (.call (.const (.func 38 [] [])) [(.tmp 29), (.tmp 35)]), .none⟩,
  ⟨(some 7), (.alloc 70 [(.int .u64 0), (.bool false)]), .none⟩,
  ⟨.none, (.store 2 (.tmp 7) (.tmp 36)), .none⟩] [])
def R_cond_eval_choice : RFunc := ⟨2, 51, [(.cell 4 (some 2))], (.seq (.region [⟨(some 4), (.alloc 70 [(.int .u64 0), (.bool false)]), .none⟩] []) (.seq (.region [⟨(some 9), (.mov (.tmp 0)), .none⟩,
  ⟨(some 10), (.mov (.tmp 1)), .none⟩,
  ⟨(some 11), (.call (.const (.func 60 [] [])) [(.tmp 9), (.const (.int .i64 1)), (.tmp 10)]), .none⟩,
  ⟨(some 5), (.alloc 70 [(.int .u64 0), (.bool false)]), .none⟩,
  ⟨.none, (.store 2 (.tmp 5) (.tmp 11)), .none⟩] []) (.seq (.seq (.region [⟨(some 12), (.mov (.tmp 0)), .none⟩,
  ⟨(some 13), (.call (.const (.func 61 [] [])) [(.tmp 12), (.const (.str [63]))]), .none⟩,
  ⟨(some 14), (.un .not (.tmp 13)), .none⟩] []) (.cond (.tmp 14) (.seq (.region [⟨(some 15), (.load (some 2) (.tmp 5)), .none⟩,
  ⟨.none, (.store 2 (.tmp 4) (.tmp 15)), .none⟩] []) .ret) .skip)) (.seq J_cond_eval_choice_1 (.seq (.region [⟨(some 24), (.mov (.tmp 0)), .none⟩,
  ⟨(some 25), (.mov (.tmp 0)), .none⟩,
  ⟨(some 26), (.call (.const (.func 61 [] [])) [(.tmp 25), (.const (.str [58]))]), .none⟩,
  ⟨(some 27), (.un .not (.tmp 26)), .none⟩,
  ⟨(some 28), (.call (.const (.func 62 [] [])) [(.tmp 24), (.tmp 27)]), .none⟩] []) (.seq J_cond_eval_choice_2 (.seq (.region [⟨(some 37), (.faddr 1 (.tmp 6)), .none⟩,
  ⟨(some 38), (.load .none (.tmp 37)), .none⟩,
  ⟨(some 39), (.mov (.tmp 38)), .none⟩,
  ⟨(some 40), (.faddr 1 (.tmp 7)), (some (39, false))⟩,
  ⟨(some 41), (.load .none (.tmp 40)), (some (39, false))⟩,
  ⟨(some 42), (.pick (.tmp 39) (.const (.bool true)) (.tmp 41)), .none⟩,
  ⟨(some 8), (.mov (.tmp 42)), .none⟩] []) (.seq (.seq (.region [⟨(some 43), (.faddr 0 (.tmp 5)), .none⟩,
  ⟨(some 44), (.load .none (.tmp 43)), .none⟩,
  ⟨(some 45), (.bin .eql .none (.tmp 44) (.const (.int .u64 0))), .none⟩] []) (.cond (.tmp 45) (.region [⟨(some 46), (.load (some 2) (.tmp 7)), .none⟩,
  ⟨.none, (.store 2 (.tmp 6) (.tmp 46)), .none⟩] []) .skip)) (.seq (.region [⟨(some 47), (.faddr 0 (.tmp 6)), .none⟩,
  ⟨(some 48), (.load .none (.tmp 47)), .none⟩,
  ⟨(some 49), (.mov (.tmp 8)), .none⟩,
  ⟨(some 50), (.build [(.int .u64 0), (.bool false)] [(0, (1, (.tmp 48))), (1, (1, (.tmp 49)))]), .none⟩,
  ⟨.none, (.store 2 (.tmp 4) (.tmp 50)), .none⟩] []) .ret)))))))))⟩
def R_token_scan_toks : RFunc := ⟨2, 6, [(.tmp 4)], (.seq (.region [⟨(some 2), (.box 78 (.tmp 0)), .none⟩,
  ⟨(some 3), (.box 38 (.tmp 1)), .none⟩,
  ⟨(some 4), (.mov (.const .nilfunc)), .none⟩] []) (.seq (.region [⟨(some 5), (.mkfunc 65 [] [(.tmp 2), (.tmp 3)]), .none⟩,
  ⟨(some 4), (.mov (.tmp 5)), .none⟩] []) .ret))⟩
def J_cond_isSuffix_1 : RCode := (.seq (.region [⟨(some 9), (.bin .eql .none (.tmp 7) (.const (.str []))), .none⟩,
  ⟨(some 8), (.mov (.tmp 9)), .none⟩] []) (.cond (.tmp 8) .skip (.seq (.region [⟨(some 10), (.bin .eql .none (.tmp 7) (.const (.str [117]))), .none⟩,
  ⟨(some 8), (.mov (.tmp 10)), .none⟩] []) (.cond (.tmp 8) .skip (.seq (.region [⟨(some 11), (.bin .eql .none (.tmp 7) (.const (.str [108]))), .none⟩,
  ⟨(some 8), (.mov (.tmp 11)), .none⟩] []) (.cond (.tmp 8) .skip (.seq (.region [⟨(some 12), (.bin .eql .none (.tmp 7) (.const (.str [108, 108]))), .none⟩,
  ⟨(some 8), (.mov (.tmp 12)), .none⟩] []) (.cond (.tmp 8) .skip (.seq (.region [⟨(some 13), (.bin .eql .none (.tmp 7) (.const (.str [117, 108]))), .none⟩,
  ⟨(some 8), (.mov (.tmp 13)), .none⟩] []) (.cond (.tmp 8) .skip (.seq (.region [⟨(some 14), (.bin .eql .none (.tmp 7) (.const (.str [117, 108, 108]))), .none⟩,
  ⟨(some 8), (.mov (.tmp 14)), .none⟩] []) (.cond (.tmp 8) .skip (.seq (.region [⟨(some 15), (.bin .eql .none (.tmp 7) (.const (.str [108, 117]))), .none⟩,
  ⟨(some 8), (.mov (.tmp 15)), .none⟩] []) (.cond (.tmp 8) .skip (.region [⟨(some 16), (.bin .eql .none (.tmp 7) (.const (.str [108, 108, 117]))), .none⟩,
  ⟨(some 8), (.mov (.tmp 16)), .none⟩] [])))))))))))))))
def R_cond_isSuffix : RFunc := ⟨1, 27, [(.tmp 2), (.tmp 3)], (.seq (.region [⟨(some 2), (.mov (.const (.bool false))), .none⟩,
  ⟨(some 3), (.mov (.const (.bool false))), .none⟩] []) (.seq (.seq (.region [⟨(some 5), (.mov (.tmp 0)), .none⟩,
  ⟨(some 6), (.ocall 69 [(.tmp 5)]), .none⟩,
  ⟨(some 4), (.mov (.tmp 6)), .none⟩] []) (.seq (.region [⟨(some 7), (.mov (.tmp 4)), .none⟩] []) (.block 0 (.seq J_cond_isSuffix_1 (.cond (.tmp 8) (.seq (.region [⟨(some 17), (.mov (.tmp 0)), .none⟩,
  ⟨(some 18), (.ocall 70 [(.tmp 17), (.const (.str [108, 76]))]), .none⟩,
  ⟨(some 19), (.un .not (.tmp 18)), .none⟩,
  ⟨(some 20), (.mov (.tmp 19)), .none⟩,
  ⟨(some 21), (.mov (.tmp 0)), (some (20, true))⟩,
  ⟨(some 22), (.ocall 70 [(.tmp 21), (.const (.str [76, 108]))]), (some (20, true))⟩,
  ⟨(some 23), (.un .not (.tmp 22)), (some (20, true))⟩,
  ⟨(some 24), (.pick (.tmp 20) (.tmp 23) (.const (.bool false))), .none⟩,
  ⟨(some 25), (.mov (.tmp 4)), .none⟩,
  ⟨(some 26), (.ocall 70 [(.tmp 25), (.const (.str [117]))]), .none⟩,
  ⟨(some 2), (.mov (.tmp 24)), .none⟩,
  ⟨(some 3), (.mov (.tmp 26)), .none⟩] []) .ret) .skip))))) (.seq (.region [⟨(some 2), (.mov (.const (.bool false))), .none⟩,
  ⟨(some 3), (.mov (.const (.bool false))), .none⟩] []) .ret)))⟩
def R_strconv_ParseUint : RFunc := ⟨3, 26, [(.tmp 6), (.tmp 7)], (.seq (.region [⟨(some 6), (.mov (.const (.int .u64 0))), .none⟩,
  ⟨(some 7), (.mov (.const .nilIface)), .none⟩] []) (.seq (.region [⟨(some 11), (.mov (.tmp 0)), .none⟩,
  ⟨(some 12), (.mov (.tmp 1)), .none⟩,
  ⟨(some 13), (.mov (.tmp 2)), .none⟩,
  ⟨(some 14), (.pcall 71 [(.tmp 11), (.tmp 12), (.tmp 13)]), .none⟩,
  ⟨(some 10), (.mov (.tmp 14)), .none⟩,
  ⟨(some 15), (.extract 0 (.tmp 10)), .none⟩,
  ⟨(some 16), (.extract 1 (.tmp 10)), .none⟩,
  ⟨(some 8), (.mov (.tmp 15)), .none⟩,
  ⟨(some 9), (.mov (.tmp 16)), .none⟩] []) (.seq (.seq (.region [⟨(some 17), (.mov (.tmp 9)), .none⟩,
  ⟨(some 18), (.bin .neq .iface (.tmp 17) (.const .nilIface)), .none⟩] []) (.cond (.tmp 18) (.seq (.region [⟨(some 19), (.mov (.tmp 8)), .none⟩,
  ⟨(some 20), (.mov (.tmp 0)), .none⟩,
  ⟨(some 21), (.mov (.tmp 1)), .none⟩,
  ⟨(some 22), (.mov (.tmp 2)), .none⟩,
  ⟨(some 23), (.mov (.tmp 9)), .none⟩,
  ⟨(some 24), (.pcall 72 [(.const (.str [80, 97, 114, 115, 101, 85, 105, 110, 116])), (.tmp 20), (.tmp 21), (.tmp 22), (.tmp 23)]), .none⟩,
  ⟨(some 6), (.mov (.tmp 19)), .none⟩,
  ⟨(some 7), (.mov (.tmp 24)), .none⟩] []) .ret) .skip)) (.seq (.region [⟨(some 25), (.mov (.tmp 8)), .none⟩,
  ⟨(some 6), (.mov (.tmp 25)), .none⟩,
  ⟨(some 7), (.mov (.const .nilIface)), .none⟩] []) .ret))))⟩
def J_cond_eval_chain_1 : RCode := (.seq (.region [⟨(some 21), (.mov (.tmp 9)), .none⟩,
  ⟨(some 22), (.bin .eql .none (.tmp 21) (.const (.int .i64 0))), .none⟩,
  ⟨(some 23), (.mov (.tmp 22)), .none⟩,
  ⟨(some 24), (.mov (.tmp 9)), (some (23, false))⟩,
  ⟨(some 25), (.mov (.tmp 1)), (some (23, false))⟩,
  ⟨(some 26), (.bin .lss .none (.tmp 24) (.tmp 25)), (some (23, false))⟩,
  ⟨(some 27), (.pick (.tmp 23) (.const (.bool true)) (.tmp 26)), .none⟩] []) (.cond (.tmp 27) (.exit 0) .skip))
def L_cond_eval_chain_1 : RCode := (.block 1 (.seq (.region [⟨(some 17), (.mov (.tmp 0)), .none⟩,
  ⟨(some 18), (.call (.const (.func 87 [] [])) [(.tmp 17)]), .none⟩,
  ⟨(some 8), (.mov (.tmp 18)), .none⟩] []) (.seq (.region [⟨(some 19), (.mov (.tmp 8)), .none⟩,
  ⟨(some 20), (.pcall 88 [(.tmp 19)]), .none⟩,
  ⟨(some 9), (.mov (.tmp 20)), .none⟩] []) (.seq J_cond_eval_chain_1 (.seq (.region [⟨(some 28), (.mov (.tmp 0)), .none⟩,
  ⟨(some 29), (.mov (.tmp 8)), .none⟩,
  ⟨(some 30), (.call (.const (.func 61 [] [])) [(.tmp 28), (.tmp 29)]), .none⟩] []) (.seq (.region [⟨(some 31), (.faddr 0 (.tmp 7)), .none⟩,
  ⟨(some 32), (.load .none (.tmp 31)), .none⟩,
  ⟨(some 33), (.bin .neq .none (.tmp 32) (.const (.int .u64 0))), .none⟩,
  ⟨(some 10), (.mov (.tmp 33)), .none⟩] []) (.seq (.region [⟨(some 34), (.mov (.tmp 8)), .none⟩] []) (.block 2 (.seq (.region [⟨(some 47), (.bin .eql .none (.tmp 34) (.const (.str [38, 38]))), .none⟩,
  ⟨(some 46), (.mov (.tmp 47)), .none⟩] []) (.cond (.tmp 46) (.seq (.region [⟨(some 48), (.mov (.tmp 0)), .none⟩,
  ⟨(some 49), (.mov (.tmp 9)), .none⟩,
  ⟨(some 50), (.bin .add .none (.tmp 49) (.const (.int .i64 1))), .none⟩,
  ⟨(some 51), (.mov (.tmp 2)), .none⟩,
  ⟨(some 52), (.mov (.tmp 51)), .none⟩,
  ⟨(some 53), (.mov (.tmp 10)), (some (52, true))⟩,
  ⟨(some 54), (.pick (.tmp 52) (.tmp 53) (.const (.bool false))), .none⟩,
  ⟨(some 55), (.call (.const (.func 60 [] [])) [(.tmp 48), (.tmp 50), (.tmp 54)]), .none⟩,
  ⟨(some 11), (.alloc 70 [(.int .u64 0), (.bool false)]), .none⟩,
  ⟨.none, (.store 2 (.tmp 11) (.tmp 55)), .none⟩] []) (.region [⟨(some 56), (.mov (.tmp 10)), .none⟩,
  ⟨(some 57), (.mov (.tmp 56)), .none⟩,
  ⟨(some 58), (.faddr 0 (.tmp 11)), (some (57, true))⟩,
  ⟨(some 59), (.load .none (.tmp 58)), (some (57, true))⟩,
  ⟨(some 60), (.bin .neq .none (.tmp 59) (.const (.int .u64 0))), (some (57, true))⟩,
  ⟨(some 61), (.pick (.tmp 57) (.tmp 60) (.const (.bool false))), .none⟩,
  ⟨(some 62), (.pcall 89 [(.tmp 61)]), .none⟩,
  ⟨.none, (.store 2 (.tmp 7) (.tmp 62)), .none⟩] [])) (.seq (.region [⟨(some 64), (.bin .eql .none (.tmp 34) (.const (.str [124, 124]))), .none⟩,
  ⟨(some 63), (.mov (.tmp 64)), .none⟩] []) (.cond (.tmp 63) (.seq (.region [⟨(some 65), (.mov (.tmp 0)), .none⟩,
  ⟨(some 66), (.mov (.tmp 9)), .none⟩,
  ⟨(some 67), (.bin .add .none (.tmp 66) (.const (.int .i64 1))), .none⟩,
  ⟨(some 68), (.mov (.tmp 2)), .none⟩,
  ⟨(some 69), (.mov (.tmp 68)), .none⟩,
  ⟨(some 70), (.mov (.tmp 10)), (some (69, true))⟩,
  ⟨(some 71), (.un .not (.tmp 70)), (some (69, true))⟩,
  ⟨(some 72), (.pick (.tmp 69) (.tmp 71) (.const (.bool false))), .none⟩,
  ⟨(some 73), (.call (.const (.func 60 [] [])) [(.tmp 65), (.tmp 67), (.tmp 72)]), .none⟩,
  ⟨(some 12), (.alloc 70 [(.int .u64 0), (.bool false)]), .none⟩,
  ⟨.none, (.store 2 (.tmp 12) (.tmp 73)), .none⟩] []) (.region [⟨(some 74), (.mov (.tmp 10)), .none⟩,
  ⟨(some 75), (.mov (.tmp 74)), .none⟩,
  ⟨(some 76), (.faddr 0 (.tmp 12)), (some (75, false))⟩,
  ⟨(some 77), (.load .none (.tmp 76)), (some (75, false))⟩,
  ⟨(some 78), (.bin .neq .none (.tmp 77) (.const (.int .u64 0))), (some (75, false))⟩,
  ⟨(some 79), (.pick (.tmp 75) (.const (.bool true)) (.tmp 78)), .none⟩,
  ⟨(some 80), (.pcall 89 [(.tmp 79)]), .none⟩,
  ⟨.none, (.store 2 (.tmp 7) (.tmp 80)), .none⟩] [])) (.seq (.region [⟨(some 35), (.mov (.tmp 0)), .none⟩,
  ⟨(some 36), (.mov (.tmp 9)), .none⟩,
  ⟨(some 37), (.bin .add .none (.tmp 36) (.const (.int .i64 1))), .none⟩,
  ⟨(some 38), (.mov (.tmp 2)), .none⟩,
  ⟨(some 39), (.call (.const (.func 60 [] [])) [(.tmp 35), (.tmp 37), (.tmp 38)]), .none⟩,
  ⟨(some 13), (.alloc 70 [(.int .u64 0), (.bool false)]), .none⟩,
  ⟨.none, (.store 2 (.tmp 13) (.tmp 39)), .none⟩] []) (.region [⟨(some 40), (.mov (.tmp 0)), .none⟩,
  ⟨(some 41), (.mov (.tmp 8)), .none⟩,
  ⟨(some 42), (.load (some 2) (.tmp 7)), .none⟩,
  ⟨(some 43), (.load (some 2) (.tmp 13)), .none⟩,
  ⟨(some 44), (.mov (.tmp 2)), .none⟩,
  ⟨(some 45), (.call (.const (.func 90 [] [])) [(.tmp 40), (.tmp 41), (.tmp 42), (.tmp 43), (.tmp 44)]), .none⟩,
  ⟨.none, (.store 2 (.tmp 7) (.tmp 45)), .none⟩] []))))))))))))))
def R_cond_eval_chain : RFunc := ⟨3, 82, [(.cell 6 (some 2))], (.seq (.region [⟨(some 6), (.alloc 70 [(.int .u64 0), (.bool false)]), .none⟩] []) (.scope (.seq (.region [⟨(some 14), (.mov (.tmp 0)), .none⟩,
  ⟨(some 15), (.mov (.tmp 2)), .none⟩,
  ⟨(some 16), (.call (.const (.func 86 [] [])) [(.tmp 14), (.tmp 15)]), .none⟩,
  ⟨(some 7), (.alloc 70 [(.int .u64 0), (.bool false)]), .none⟩,
  ⟨.none, (.store 2 (.tmp 7) (.tmp 16)), .none⟩] []) (.seq .skip (.seq (.block 0 (.loop L_cond_eval_chain_1)) (.seq (.region [⟨(some 81), (.load (some 2) (.tmp 7)), .none⟩,
  ⟨.none, (.store 2 (.tmp 6) (.tmp 81)), .none⟩] []) .ret))))))⟩
def R_cond_eval_take : RFunc := ⟨2, 20, [(.tmp 4)], (.seq (.region [⟨(some 4), (.mov (.const (.bool false))), .none⟩] []) (.seq (.region [⟨(some 6), (.mov (.tmp 0)), .none⟩,
  ⟨(some 7), (.call (.const (.func 87 [] [])) [(.tmp 6)]), .none⟩,
  ⟨(some 8), (.mov (.tmp 1)), .none⟩,
  ⟨(some 9), (.bin .eql .none (.tmp 7) (.tmp 8)), .none⟩,
  ⟨(some 5), (.mov (.tmp 9)), .none⟩] []) (.seq (.seq (.region [⟨(some 10), (.mov (.tmp 5)), .none⟩] []) (.cond (.tmp 10) (.region [⟨(some 11), (.mov (.tmp 0)), .none⟩,
  ⟨(some 12), (.mov (.tmp 0)), .none⟩,
  ⟨(some 13), (.nilck (.tmp 12)), .none⟩,
  ⟨(some 14), (.faddr 0 (.tmp 13)), .none⟩,
  ⟨(some 15), (.load .none (.tmp 14)), .none⟩,
  ⟨(some 16), (.slice 6 (.tmp 15) (some (.const (.int .i64 1))) .none .none), .none⟩,
  ⟨(some 17), (.nilck (.tmp 11)), .none⟩,
  ⟨(some 18), (.faddr 0 (.tmp 17)), .none⟩,
  ⟨.none, (.store 1 (.tmp 18) (.tmp 16)), .none⟩] []) .skip)) (.seq (.region [⟨(some 19), (.mov (.tmp 5)), .none⟩,
  ⟨(some 4), (.mov (.tmp 19)), .none⟩] []) .ret))))⟩
def R_cond_eval_fails : RFunc := ⟨2, 14, [], (.region [⟨(some 4), (.mov (.tmp 0)), .none⟩,
  ⟨(some 5), (.mov (.tmp 0)), .none⟩,
  ⟨(some 6), (.nilck (.tmp 5)), .none⟩,
  ⟨(some 7), (.faddr 1 (.tmp 6)), .none⟩,
  ⟨(some 8), (.load .none (.tmp 7)), .none⟩,
  ⟨(some 9), (.mov (.tmp 8)), .none⟩,
  ⟨(some 10), (.mov (.tmp 1)), (some (9, false))⟩,
  ⟨(some 11), (.pick (.tmp 9) (.const (.bool true)) (.tmp 10)), .none⟩,
  ⟨(some 12), (.nilck (.tmp 4)), .none⟩,
  ⟨(some 13), (.faddr 1 (.tmp 12)), .none⟩,
  ⟨.none, (.store 1 (.tmp 13) (.tmp 11)), .none⟩] [])⟩
def J_token_scan_toks_1_1 : RCode := (.seq (.region [⟨(some 8), (.load .none (.tmp 1)), .none⟩,
  ⟨(some 9), (.nilck (.tmp 8)), .none⟩,
  ⟨(some 10), (.faddr 0 (.tmp 9)), .none⟩,
  ⟨(some 11), (.load .none (.tmp 10)), .none⟩,
  ⟨(some 12), (.un .not (.tmp 11)), .none⟩] []) (.cond (.tmp 12) (.region [⟨(some 13), (.load .none (.tmp 1)), .none⟩,
  ⟨(some 14), (.load .none (.tmp 1)), .none⟩,
  ⟨(some 15), (.nilck (.tmp 13)), .none⟩,
  ⟨(some 16), (.faddr 3 (.tmp 15)), .none⟩,
  ⟨.none, (.store 1 (.tmp 16) (.const (.bool true))), .none⟩,
  ⟨(some 17), (.nilck (.tmp 14)), .none⟩,
  ⟨(some 18), (.faddr 2 (.tmp 17)), .none⟩,
  ⟨.none, (.store 1 (.tmp 18) (.const (.bool false))), .none⟩] [⟨(.tmp 16), 1, (.tmp 1), 1⟩]) .skip))
def L_token_scan_toks_1_1 : RCode := (.seq (.seq (.region [⟨(some 25), (.mov (.tmp 4)), .none⟩,
  ⟨(some 26), (.bin .neq .none (.tmp 25) (.const (.str []))), .none⟩] []) (.cond (.tmp 26) .skip (.exit 0))) (.seq (.block 1 (.seq (.region [⟨(some 33), (.mov (.tmp 4)), .none⟩,
  ⟨(some 34), (.pcall 67 [(.tmp 33)]), .none⟩,
  ⟨(some 32), (.mov (.tmp 34)), .none⟩,
  ⟨(some 35), (.extract 0 (.tmp 32)), .none⟩,
  ⟨(some 36), (.extract 1 (.tmp 32)), .none⟩,
  ⟨(some 5), (.mov (.tmp 35)), .none⟩,
  ⟨(some 6), (.mov (.tmp 36)), .none⟩] []) (.seq (.region [⟨(some 37), (.mov (.tmp 5)), .none⟩,
  ⟨(some 38), (.mov (.tmp 4)), .none⟩,
  ⟨(some 39), (.mov (.tmp 6)), .none⟩,
  ⟨(some 40), (.sliceS (.tmp 38) .none (some (.tmp 39))), .none⟩,
  ⟨(some 41), (.faddr 0 (.tmp 2)), .none⟩,
  ⟨(some 42), (.load .none (.tmp 41)), .none⟩,
  ⟨(some 43), (.load .none (.tmp 1)), .none⟩,
  ⟨(some 44), (.nilck (.tmp 43)), .none⟩,
  ⟨(some 45), (.faddr 2 (.tmp 44)), .none⟩,
  ⟨(some 46), (.load .none (.tmp 45)), .none⟩,
  ⟨(some 47), (.load .none (.tmp 1)), .none⟩,
  ⟨(some 48), (.nilck (.tmp 47)), .none⟩,
  ⟨(some 49), (.faddr 3 (.tmp 48)), .none⟩,
  ⟨(some 50), (.load .none (.tmp 49)), .none⟩,
  ⟨(some 51), (.build [(.int .i64 0), (.str []), (.str []), (.int .i64 0), (.bool false), (.bool false)] [(0, (1, (.tmp 37))), (1, (1, (.tmp 40))), (3, (1, (.tmp 42))), (4, (1, (.tmp 46))), (5, (1, (.tmp 50)))]), .none⟩,
  ⟨(some 7), (.alloc 41 [(.int .i64 0), (.str []), (.str []), (.int .i64 0), (.bool false), (.bool false)]), .none⟩,
  ⟨.none, (.store 6 (.tmp 7) (.tmp 51)), .none⟩] []) (.seq (.seq (.region [⟨(some 52), (.mov (.tmp 0)), .none⟩,
  ⟨(some 53), (.load (some 6) (.tmp 7)), .none⟩,
  ⟨(some 54), (.call (.tmp 52) [(.tmp 53)]), .none⟩,
  ⟨(some 55), (.un .not (.tmp 54)), .none⟩] []) (.cond (.tmp 55) .ret .skip)) (.region [⟨(some 56), (.load .none (.tmp 1)), .none⟩,
  ⟨(some 57), (.load .none (.tmp 1)), .none⟩,
  ⟨(some 58), (.mov (.tmp 4)), .none⟩,
  ⟨(some 59), (.mov (.tmp 6)), .none⟩,
  ⟨(some 60), (.sliceS (.tmp 58) (some (.tmp 59)) .none), .none⟩,
  ⟨(some 61), (.nilck (.tmp 56)), .none⟩,
  ⟨(some 62), (.faddr 3 (.tmp 61)), .none⟩,
  ⟨.none, (.store 1 (.tmp 62) (.const (.bool false))), .none⟩,
  ⟨(some 63), (.nilck (.tmp 57)), .none⟩,
  ⟨(some 64), (.faddr 2 (.tmp 63)), .none⟩,
  ⟨.none, (.store 1 (.tmp 64) (.const (.bool false))), .none⟩,
  ⟨(some 4), (.mov (.tmp 60)), .none⟩] [⟨(.tmp 62), 1, (.tmp 1), 1⟩]))))) (.region [⟨(some 27), (.load .none (.tmp 1)), .none⟩,
  ⟨(some 28), (.mov (.tmp 4)), .none⟩,
  ⟨(some 29), (.faddr 0 (.tmp 2)), .none⟩,
  ⟨(some 30), (.load .none (.tmp 29)), .none⟩,
  ⟨(some 31), (.call (.const (.func 66 [] [])) [(.tmp 27), (.tmp 28), (.tmp 30)]), .none⟩,
  ⟨(some 4), (.mov (.tmp 31)), .none⟩] [])))
def R_token_scan_toks_1 : RFunc := ⟨3, 65, [], (.seq J_token_scan_toks_1_1 (.seq (.region [⟨(some 19), (.load .none (.tmp 1)), .none⟩,
  ⟨(some 20), (.faddr 1 (.tmp 2)), .none⟩,
  ⟨(some 21), (.load .none (.tmp 20)), .none⟩,
  ⟨(some 22), (.faddr 0 (.tmp 2)), .none⟩,
  ⟨(some 23), (.load .none (.tmp 22)), .none⟩,
  ⟨(some 24), (.call (.const (.func 66 [] [])) [(.tmp 19), (.tmp 21), (.tmp 23)]), .none⟩,
  ⟨(some 4), (.mov (.tmp 24)), .none⟩] []) (.block 0 (.loop L_token_scan_toks_1_1))))⟩
def L_token_scan_skip_1 : RCode := (.seq (.seq (.region [⟨(some 10), (.mov (.tmp 1)), .none⟩,
  ⟨(some 11), (.bin .neq .none (.tmp 10) (.const (.str []))), .none⟩] []) (.cond (.tmp 11) .skip (.exit 0))) (.block 1 (.block 2 (.seq (.region [⟨(some 14), (.mov (.tmp 0)), .none⟩,
  ⟨(some 15), (.nilck (.tmp 14)), .none⟩,
  ⟨(some 16), (.faddr 0 (.tmp 15)), .none⟩,
  ⟨(some 17), (.load .none (.tmp 16)), .none⟩,
  ⟨(some 13), (.mov (.tmp 17)), .none⟩] []) (.cond (.tmp 13) (.seq (.region [⟨(some 19), (.mov (.tmp 1)), .none⟩,
  ⟨(some 20), (.ocall 96 [(.tmp 19), (.const (.str [42, 47]))]), .none⟩,
  ⟨(some 18), (.mov (.tmp 20)), .none⟩,
  ⟨(some 21), (.extract 0 (.tmp 18)), .none⟩,
  ⟨(some 22), (.extract 1 (.tmp 18)), .none⟩,
  ⟨(some 23), (.extract 2 (.tmp 18)), .none⟩,
  ⟨(some 7), (.mov (.tmp 21)), .none⟩,
  ⟨(some 8), (.mov (.tmp 22)), .none⟩,
  ⟨(some 9), (.mov (.tmp 23)), .none⟩] []) (.seq (.region [⟨(some 24), (.mov (.tmp 0)), .none⟩,
  ⟨(some 25), (.nilck (.tmp 24)), .none⟩,
  ⟨(some 26), (.faddr 2 (.tmp 25)), .none⟩,
  ⟨.none, (.store 1 (.tmp 26) (.const (.bool true))), .none⟩] []) (.seq (.region [⟨(some 27), (.mov (.tmp 8)), .none⟩,
  ⟨(some 1), (.mov (.tmp 27)), .none⟩] []) (.seq (.region [⟨(some 28), (.mov (.tmp 9)), .none⟩] []) (.cond (.tmp 28) (.region [⟨(some 29), (.mov (.tmp 0)), .none⟩,
  ⟨(some 30), (.nilck (.tmp 29)), .none⟩,
  ⟨(some 31), (.faddr 0 (.tmp 30)), .none⟩,
  ⟨.none, (.store 1 (.tmp 31) (.const (.bool false))), .none⟩] []) .skip))))) (.seq (.region [⟨(some 33), (.mov (.tmp 1)), .none⟩,
  ⟨(some 34), (.ocall 41 [(.tmp 33), (.const (.str [47, 47]))]), .none⟩,
  ⟨(some 32), (.mov (.tmp 34)), .none⟩] []) (.cond (.tmp 32) (.seq (.region [⟨(some 6), (.mov (.const (.str []))), .none⟩] []) .ret) (.seq (.region [⟨(some 36), (.mov (.tmp 1)), .none⟩,
  ⟨(some 37), (.ocall 41 [(.tmp 36), (.const (.str [47, 42]))]), .none⟩,
  ⟨(some 35), (.mov (.tmp 37)), .none⟩] []) (.cond (.tmp 35) (.region [⟨(some 38), (.mov (.tmp 0)), .none⟩,
  ⟨(some 39), (.mov (.tmp 0)), .none⟩,
  ⟨(some 40), (.mov (.tmp 2)), .none⟩,
  ⟨(some 41), (.mov (.tmp 1)), .none⟩,
  ⟨(some 42), (.sliceS (.tmp 41) (some (.const (.int .i64 2))) .none), .none⟩,
  ⟨(some 43), (.nilck (.tmp 38)), .none⟩,
  ⟨(some 44), (.faddr 0 (.tmp 43)), .none⟩,
  ⟨.none, (.store 1 (.tmp 44) (.const (.bool true))), .none⟩,
  ⟨(some 45), (.nilck (.tmp 39)), .none⟩,
  ⟨(some 46), (.faddr 1 (.tmp 45)), .none⟩,
  ⟨.none, (.store 1 (.tmp 46) (.tmp 40)), .none⟩,
  ⟨(some 1), (.mov (.tmp 42)), .none⟩] []) (.seq (.region [⟨(some 48), (.mov (.tmp 1)), .none⟩,
  ⟨(some 49), (.indexS (.tmp 48) (.const (.int .i64 0))), .none⟩,
  ⟨(some 50), (.ocall 82 [(.const (.str [32, 9, 11, 12])), (.tmp 49)]), .none⟩,
  ⟨(some 51), (.bin .geq .none (.tmp 50) (.const (.int .i64 0))), .none⟩,
  ⟨(some 47), (.mov (.tmp 51)), .none⟩] []) (.cond (.tmp 47) (.region [⟨(some 52), (.mov (.tmp 0)), .none⟩,
  ⟨(some 53), (.mov (.tmp 1)), .none⟩,
  ⟨(some 54), (.sliceS (.tmp 53) (some (.const (.int .i64 1))) .none), .none⟩,
  ⟨(some 55), (.nilck (.tmp 52)), .none⟩,
  ⟨(some 56), (.faddr 2 (.tmp 55)), .none⟩,
  ⟨.none, (.store 1 (.tmp 56) (.const (.bool true))), .none⟩,
  ⟨(some 1), (.mov (.tmp 54)), .none⟩] []) (.seq (.region [⟨(some 12), (.mov (.tmp 1)), .none⟩,
  ⟨(some 6), (.mov (.tmp 12)), .none⟩] []) .ret))))))))))))
def R_token_scan_skip : RFunc := ⟨3, 57, [(.tmp 6)], (.seq (.region [⟨(some 6), (.mov (.const (.str []))), .none⟩] []) (.seq (.block 0 (.loop L_token_scan_skip_1)) (.seq (.region [⟨(some 6), (.mov (.const (.str []))), .none⟩] []) .ret)))⟩
def J_token_next_2 : RCode := (.region [⟨(some 17), (.mov (.tmp 4)), .none⟩,
  ⟨(some 18), (.pcall 101 [(.tmp 17)]), .none⟩,
  ⟨(some 19), (.mov (.tmp 18)), .none⟩,
  ⟨(some 20), (.mov (.tmp 4)), (some (19, false))⟩,
  ⟨(some 21), (.bin .eql .none (.tmp 20) (.const (.int .u8 46))), (some (19, false))⟩,
  ⟨(some 22), (.mov (.tmp 21)), (some (19, false))⟩,
  ⟨(some 23), (.load .none (.tmp 1)), (some (22, true))⟩,
  ⟨(some 24), (.len true (.tmp 23)), (some (22, true))⟩,
  ⟨(some 25), (.bin .gtr .none (.tmp 24) (.const (.int .i64 1))), (some (22, true))⟩,
  ⟨(some 26), (.pick (.tmp 22) (.tmp 25) (.const (.bool false))), (some (19, false))⟩,
  ⟨(some 27), (.mov (.tmp 26)), (some (19, false))⟩,
  ⟨(some 28), (.load .none (.tmp 1)), (some (27, true))⟩,
  ⟨(some 29), (.indexS (.tmp 28) (.const (.int .i64 1))), (some (27, true))⟩,
  ⟨(some 30), (.pcall 101 [(.tmp 29)]), (some (27, true))⟩,
  ⟨(some 31), (.pick (.tmp 27) (.tmp 30) (.const (.bool false))), (some (19, false))⟩,
  ⟨(some 32), (.pick (.tmp 19) (.const (.bool true)) (.tmp 31)), .none⟩,
  ⟨(some 16), (.mov (.tmp 32)), .none⟩] [])
def J_token_next_1 : RCode := (.block 0 (.seq (.region [⟨(some 11), (.mov (.tmp 4)), .none⟩,
  ⟨(some 12), (.pcall 97 [(.tmp 11)]), .none⟩,
  ⟨(some 10), (.mov (.tmp 12)), .none⟩] []) (.cond (.tmp 10) (.seq (.region [⟨(some 13), (.load .none (.tmp 1)), .none⟩,
  ⟨(some 14), (.mkfunc 99 [] [(.tmp 1)]), .none⟩,
  ⟨(some 15), (.call (.const (.func 98 [] [])) [(.tmp 13), (.tmp 14)]), .none⟩,
  ⟨(some 2), (.mov (.const (.int .i64 1))), .none⟩,
  ⟨(some 3), (.mov (.tmp 15)), .none⟩] []) .ret) (.seq J_token_next_2 (.cond (.tmp 16) (.seq (.region [⟨(some 33), (.load .none (.tmp 1)), .none⟩,
  ⟨(some 34), (.pcall 102 [(.tmp 33)]), .none⟩,
  ⟨(some 2), (.mov (.const (.int .i64 2))), .none⟩,
  ⟨(some 3), (.mov (.tmp 34)), .none⟩] []) .ret) (.seq (.region [⟨(some 36), (.mov (.tmp 4)), .none⟩,
  ⟨(some 37), (.bin .eql .none (.tmp 36) (.const (.int .u8 34))), .none⟩,
  ⟨(some 35), (.mov (.tmp 37)), .none⟩] []) (.cond (.tmp 35) (.seq (.region [⟨(some 38), (.load .none (.tmp 1)), .none⟩,
  ⟨(some 39), (.pcall 103 [(.tmp 38)]), .none⟩,
  ⟨(some 2), (.mov (.const (.int .i64 4))), .none⟩,
  ⟨(some 3), (.mov (.tmp 39)), .none⟩] []) .ret) (.seq (.region [⟨(some 41), (.mov (.tmp 4)), .none⟩,
  ⟨(some 42), (.bin .eql .none (.tmp 41) (.const (.int .u8 39))), .none⟩,
  ⟨(some 40), (.mov (.tmp 42)), .none⟩] []) (.cond (.tmp 40) (.seq (.region [⟨(some 43), (.load .none (.tmp 1)), .none⟩,
  ⟨(some 44), (.pcall 103 [(.tmp 43)]), .none⟩,
  ⟨(some 5), (.mov (.tmp 44)), .none⟩] []) (.seq (.seq (.region [⟨(some 45), (.mov (.tmp 5)), .none⟩,
  ⟨(some 46), (.bin .eql .none (.tmp 45) (.const (.int .i64 2))), .none⟩] []) (.cond (.tmp 46) (.region [⟨(some 5), (.mov (.const (.int .i64 0))), .none⟩] []) .skip)) (.seq (.region [⟨(some 47), (.mov (.tmp 5)), .none⟩,
  ⟨(some 2), (.mov (.const (.int .i64 3))), .none⟩,
  ⟨(some 3), (.mov (.tmp 47)), .none⟩] []) .ret))) .skip)))))))))
def L_token_next_1 : RCode := (.seq (.region [⟨(some 50), (.bin .lss .none (.tmp 49) (.const (.int .i64 48))), .none⟩] []) (.seq (.cond (.tmp 50) .skip (.exit 1)) (.seq (.block 2 (.seq (.region [⟨(some 51), (.indexA 48 1 .none (.tmp 48) (.tmp 49)), .none⟩,
  ⟨(some 7), (.mov (.tmp 51)), .none⟩] []) (.seq (.region [⟨(some 52), (.load .none (.tmp 1)), .none⟩,
  ⟨(some 53), (.mov (.tmp 7)), .none⟩,
  ⟨(some 54), (.ocall 41 [(.tmp 52), (.tmp 53)]), .none⟩] []) (.cond (.tmp 54) (.seq (.region [⟨(some 55), (.mov (.tmp 7)), .none⟩,
  ⟨(some 56), (.len true (.tmp 55)), .none⟩,
  ⟨(some 2), (.mov (.const (.int .i64 5))), .none⟩,
  ⟨(some 3), (.mov (.tmp 56)), .none⟩] []) .ret) .skip)))) (.region [⟨(some 57), (.bin .add .none (.tmp 49) (.const (.int .i64 1))), .none⟩,
  ⟨(some 49), (.mov (.tmp 57)), .none⟩] []))))
def R_token_next : RFunc := ⟨1, 58, [(.tmp 2), (.tmp 3)], (.seq (.region [⟨(some 1), (.box 9 (.tmp 0)), .none⟩,
  ⟨(some 2), (.mov (.const (.int .i64 0))), .none⟩,
  ⟨(some 3), (.mov (.const (.int .i64 0))), .none⟩] []) (.seq (.region [⟨(some 8), (.load .none (.tmp 1)), .none⟩,
  ⟨(some 9), (.indexS (.tmp 8) (.const (.int .i64 0))), .none⟩,
  ⟨(some 4), (.mov (.tmp 9)), .none⟩] []) (.seq J_token_next_1 (.seq (.seq (.region [⟨(some 48), (.load (some 48) (.const (.cptr G_0 0))), .none⟩,
  ⟨(some 49), (.mov (.const (.int .i64 0))), .none⟩] []) (.block 1 (.loop L_token_next_1))) (.seq (.region [⟨(some 2), (.mov (.const (.int .i64 6))), .none⟩,
  ⟨(some 3), (.mov (.const (.int .i64 1))), .none⟩] []) .ret)))))⟩
def J_internal_strconv_ParseUint_2 : RCode := (.region [⟨(some 26), (.mov (.tmp 1)), .none⟩,
  ⟨(some 27), (.bin .leq .none (.const (.int .i64 2)) (.tmp 26)), .none⟩,
  ⟨(some 28), (.mov (.tmp 27)), .none⟩,
  ⟨(some 29), (.mov (.tmp 1)), (some (28, true))⟩,
  ⟨(some 30), (.bin .leq .none (.tmp 29) (.const (.int .i64 36))), (some (28, true))⟩,
  ⟨(some 31), (.pick (.tmp 28) (.tmp 30) (.const (.bool false))), .none⟩,
  ⟨(some 25), (.mov (.tmp 31)), .none⟩] [])
def J_internal_strconv_ParseUint_3 : RCode := (.region [⟨(some 41), (.mov (.tmp 0)), .none⟩,
  ⟨(some 42), (.len true (.tmp 41)), .none⟩,
  ⟨(some 43), (.bin .geq .none (.tmp 42) (.const (.int .i64 3))), .none⟩,
  ⟨(some 44), (.mov (.tmp 43)), .none⟩,
  ⟨(some 45), (.mov (.tmp 0)), (some (44, true))⟩,
  ⟨(some 46), (.indexS (.tmp 45) (.const (.int .i64 1))), (some (44, true))⟩,
  ⟨(some 47), (.pcall 108 [(.tmp 46)]), (some (44, true))⟩,
  ⟨(some 48), (.bin .eql .none (.tmp 47) (.const (.int .u8 98))), (some (44, true))⟩,
  ⟨(some 49), (.pick (.tmp 44) (.tmp 48) (.const (.bool false))), .none⟩,
  ⟨(some 40), (.mov (.tmp 49)), .none⟩] [])
def J_internal_strconv_ParseUint_4 : RCode := (.region [⟨(some 53), (.mov (.tmp 0)), .none⟩,
  ⟨(some 54), (.len true (.tmp 53)), .none⟩,
  ⟨(some 55), (.bin .geq .none (.tmp 54) (.const (.int .i64 3))), .none⟩,
  ⟨(some 56), (.mov (.tmp 55)), .none⟩,
  ⟨(some 57), (.mov (.tmp 0)), (some (56, true))⟩,
  ⟨(some 58), (.indexS (.tmp 57) (.const (.int .i64 1))), (some (56, true))⟩,
  ⟨(some 59), (.pcall 108 [(.tmp 58)]), (some (56, true))⟩,
  ⟨(some 60), (.bin .eql .none (.tmp 59) (.const (.int .u8 111))), (some (56, true))⟩,
  ⟨(some 61), (.pick (.tmp 56) (.tmp 60) (.const (.bool false))), .none⟩,
  ⟨(some 52), (.mov (.tmp 61)), .none⟩] [])
def J_internal_strconv_ParseUint_1 : RCode := (.block 0 (.seq J_internal_strconv_ParseUint_2 (.cond (.tmp 25) .skip (.seq (.region [⟨(some 33), (.mov (.tmp 1)), .none⟩,
  ⟨(some 34), (.bin .eql .none (.tmp 33) (.const (.int .i64 0))), .none⟩,
  ⟨(some 32), (.mov (.tmp 34)), .none⟩] []) (.cond (.tmp 32) (.seq (.region [⟨(some 1), (.mov (.const (.int .i64 10))), .none⟩] []) (.seq (.region [⟨(some 35), (.mov (.tmp 0)), .none⟩,
  ⟨(some 36), (.indexS (.tmp 35) (.const (.int .i64 0))), .none⟩,
  ⟨(some 37), (.bin .eql .none (.tmp 36) (.const (.int .u8 48))), .none⟩] []) (.cond (.tmp 37) (.block 1 (.seq J_internal_strconv_ParseUint_3 (.cond (.tmp 40) (.seq (.region [⟨(some 1), (.mov (.const (.int .i64 2))), .none⟩] []) (.region [⟨(some 50), (.mov (.tmp 0)), .none⟩,
  ⟨(some 51), (.sliceS (.tmp 50) (some (.const (.int .i64 2))) .none), .none⟩,
  ⟨(some 0), (.mov (.tmp 51)), .none⟩] [])) (.seq J_internal_strconv_ParseUint_4 (.cond (.tmp 52) (.seq (.region [⟨(some 1), (.mov (.const (.int .i64 8))), .none⟩] []) (.region [⟨(some 62), (.mov (.tmp 0)), .none⟩,
  ⟨(some 63), (.sliceS (.tmp 62) (some (.const (.int .i64 2))) .none), .none⟩,
  ⟨(some 0), (.mov (.tmp 63)), .none⟩] [])) (.seq (.region [⟨(some 65), (.mov (.tmp 0)), .none⟩,
  ⟨(some 66), (.len true (.tmp 65)), .none⟩,
  ⟨(some 67), (.bin .geq .none (.tmp 66) (.const (.int .i64 3))), .none⟩,
  ⟨(some 68), (.mov (.tmp 67)), .none⟩,
  ⟨(some 69), (.mov (.tmp 0)), (some (68, true))⟩,
  ⟨(some 70), (.indexS (.tmp 69) (.const (.int .i64 1))), (some (68, true))⟩,
  ⟨(some 71), (.pcall 108 [(.tmp 70)]), (some (68, true))⟩,
  ⟨(some 72), (.bin .eql .none (.tmp 71) (.const (.int .u8 120))), (some (68, true))⟩,
  ⟨(some 73), (.pick (.tmp 68) (.tmp 72) (.const (.bool false))), .none⟩,
  ⟨(some 64), (.mov (.tmp 73)), .none⟩] []) (.cond (.tmp 64) (.seq (.region [⟨(some 1), (.mov (.const (.int .i64 16))), .none⟩] []) (.region [⟨(some 74), (.mov (.tmp 0)), .none⟩,
  ⟨(some 75), (.sliceS (.tmp 74) (some (.const (.int .i64 2))) .none), .none⟩,
  ⟨(some 0), (.mov (.tmp 75)), .none⟩] [])) (.seq (.region [⟨(some 1), (.mov (.const (.int .i64 8))), .none⟩] []) (.region [⟨(some 38), (.mov (.tmp 0)), .none⟩,
  ⟨(some 39), (.sliceS (.tmp 38) (some (.const (.int .i64 1))) .none), .none⟩,
  ⟨(some 0), (.mov (.tmp 39)), .none⟩] []))))))))) .skip))) (.seq (.region [⟨(some 24), (.mkif 145 (.const (.int .i64 3))), .none⟩,
  ⟨(some 6), (.mov (.const (.int .u64 0))), .none⟩,
  ⟨(some 7), (.mov (.tmp 24)), .none⟩] []) .ret))))))
def J_internal_strconv_ParseUint_5 : RCode := (.seq (.region [⟨(some 76), (.mov (.tmp 2)), .none⟩,
  ⟨(some 77), (.bin .eql .none (.tmp 76) (.const (.int .i64 0))), .none⟩] []) (.cond (.tmp 77) (.region [⟨(some 2), (.mov (.const (.int .i64 64))), .none⟩] []) (.seq (.region [⟨(some 78), (.mov (.tmp 2)), .none⟩,
  ⟨(some 79), (.bin .lss .none (.tmp 78) (.const (.int .i64 0))), .none⟩,
  ⟨(some 80), (.mov (.tmp 79)), .none⟩,
  ⟨(some 81), (.mov (.tmp 2)), (some (80, false))⟩,
  ⟨(some 82), (.bin .gtr .none (.tmp 81) (.const (.int .i64 64))), (some (80, false))⟩,
  ⟨(some 83), (.pick (.tmp 80) (.const (.bool true)) (.tmp 82)), .none⟩] []) (.cond (.tmp 83) (.seq (.region [⟨(some 84), (.mkif 145 (.const (.int .i64 4))), .none⟩,
  ⟨(some 6), (.mov (.const (.int .u64 0))), .none⟩,
  ⟨(some 7), (.mov (.tmp 84)), .none⟩] []) .ret) .skip))))
def J_internal_strconv_ParseUint_6 : RCode := (.seq (.region [⟨(some 85), (.mov (.tmp 1)), .none⟩] []) (.block 2 (.seq (.region [⟨(some 91), (.bin .eql .none (.tmp 85) (.const (.int .i64 10))), .none⟩,
  ⟨(some 90), (.mov (.tmp 91)), .none⟩] []) (.cond (.tmp 90) (.region [⟨(some 10), (.mov (.const (.int .u64 1844674407370955162))), .none⟩] []) (.seq (.region [⟨(some 93), (.bin .eql .none (.tmp 85) (.const (.int .i64 16))), .none⟩,
  ⟨(some 92), (.mov (.tmp 93)), .none⟩] []) (.cond (.tmp 92) (.region [⟨(some 10), (.mov (.const (.int .u64 1152921504606846976))), .none⟩] []) (.region [⟨(some 86), (.mov (.tmp 1)), .none⟩,
  ⟨(some 87), (.conv (.int .u64) (.tmp 86)), .none⟩,
  ⟨(some 88), (.bin .quo .none (.const (.int .u64 18446744073709551615)) (.tmp 87)), .none⟩,
  ⟨(some 89), (.bin .add .none (.tmp 88) (.const (.int .u64 1))), .none⟩,
  ⟨(some 10), (.mov (.tmp 89)), .none⟩] [])))))))
def J_internal_strconv_ParseUint_8 : RCode := (.region [⟨(some 107), (.mov (.tmp 15)), .none⟩,
  ⟨(some 108), (.bin .eql .none (.tmp 107) (.const (.int .u8 95))), .none⟩,
  ⟨(some 109), (.mov (.tmp 108)), .none⟩,
  ⟨(some 110), (.mov (.tmp 8)), (some (109, true))⟩,
  ⟨(some 111), (.pick (.tmp 109) (.tmp 110) (.const (.bool false))), .none⟩,
  ⟨(some 106), (.mov (.tmp 111)), .none⟩] [])
def J_internal_strconv_ParseUint_9 : RCode := (.region [⟨(some 113), (.mov (.tmp 15)), .none⟩,
  ⟨(some 114), (.bin .leq .none (.const (.int .u8 48)) (.tmp 113)), .none⟩,
  ⟨(some 115), (.mov (.tmp 114)), .none⟩,
  ⟨(some 116), (.mov (.tmp 15)), (some (115, true))⟩,
  ⟨(some 117), (.bin .leq .none (.tmp 116) (.const (.int .u8 57))), (some (115, true))⟩,
  ⟨(some 118), (.pick (.tmp 115) (.tmp 117) (.const (.bool false))), .none⟩,
  ⟨(some 112), (.mov (.tmp 118)), .none⟩] [])
def J_internal_strconv_ParseUint_10 : RCode := (.region [⟨(some 122), (.mov (.tmp 15)), .none⟩,
  ⟨(some 123), (.pcall 108 [(.tmp 122)]), .none⟩,
  ⟨(some 124), (.bin .leq .none (.const (.int .u8 97)) (.tmp 123)), .none⟩,
  ⟨(some 125), (.mov (.tmp 124)), .none⟩,
  ⟨(some 126), (.mov (.tmp 15)), (some (125, true))⟩,
  ⟨(some 127), (.pcall 108 [(.tmp 126)]), (some (125, true))⟩,
  ⟨(some 128), (.bin .leq .none (.tmp 127) (.const (.int .u8 122))), (some (125, true))⟩,
  ⟨(some 129), (.pick (.tmp 125) (.tmp 128) (.const (.bool false))), .none⟩,
  ⟨(some 121), (.mov (.tmp 129)), .none⟩] [])
def J_internal_strconv_ParseUint_7 : RCode := (.block 5 (.seq J_internal_strconv_ParseUint_8 (.cond (.tmp 106) (.seq (.region [⟨(some 12), (.mov (.const (.bool true))), .none⟩] []) (.exit 4)) (.seq J_internal_strconv_ParseUint_9 (.cond (.tmp 112) (.region [⟨(some 119), (.mov (.tmp 15)), .none⟩,
  ⟨(some 120), (.bin .sub .none (.tmp 119) (.const (.int .u8 48))), .none⟩,
  ⟨(some 16), (.mov (.tmp 120)), .none⟩] []) (.seq J_internal_strconv_ParseUint_10 (.cond (.tmp 121) (.region [⟨(some 130), (.mov (.tmp 15)), .none⟩,
  ⟨(some 131), (.pcall 108 [(.tmp 130)]), .none⟩,
  ⟨(some 132), (.bin .sub .none (.tmp 131) (.const (.int .u8 97))), .none⟩,
  ⟨(some 133), (.bin .add .none (.tmp 132) (.const (.int .u8 10))), .none⟩,
  ⟨(some 16), (.mov (.tmp 133)), .none⟩] []) (.seq (.region [⟨(some 105), (.mkif 145 (.const (.int .i64 2))), .none⟩,
  ⟨(some 6), (.mov (.const (.int .u64 0))), .none⟩,
  ⟨(some 7), (.mov (.tmp 105)), .none⟩] []) .ret))))))))
def L_internal_strconv_ParseUint_1 : RCode := (.seq (.region [⟨(some 102), (.bin .lss .none (.tmp 101) (.tmp 100)), .none⟩] []) (.seq (.cond (.tmp 102) .skip (.exit 3)) (.seq (.block 4 (.seq (.region [⟨(some 103), (.iaddr 1 (.tmp 99) (.tmp 101)), .none⟩,
  ⟨(some 104), (.load .none (.tmp 103)), .none⟩,
  ⟨(some 15), (.mov (.tmp 104)), .none⟩] []) (.seq (.region [⟨(some 16), (.mov (.const (.int .u8 0))), .none⟩] []) (.seq J_internal_strconv_ParseUint_7 (.seq (.seq (.region [⟨(some 134), (.mov (.tmp 16)), .none⟩,
  ⟨(some 135), (.mov (.tmp 1)), .none⟩,
  ⟨(some 136), (.conv (.int .u8) (.tmp 135)), .none⟩,
  ⟨(some 137), (.bin .geq .none (.tmp 134) (.tmp 136)), .none⟩] []) (.cond (.tmp 137) (.seq (.region [⟨(some 138), (.mkif 145 (.const (.int .i64 2))), .none⟩,
  ⟨(some 6), (.mov (.const (.int .u64 0))), .none⟩,
  ⟨(some 7), (.mov (.tmp 138)), .none⟩] []) .ret) .skip)) (.seq (.seq (.region [⟨(some 139), (.mov (.tmp 13)), .none⟩,
  ⟨(some 140), (.mov (.tmp 10)), .none⟩,
  ⟨(some 141), (.bin .geq .none (.tmp 139) (.tmp 140)), .none⟩] []) (.cond (.tmp 141) (.seq (.region [⟨(some 142), (.mov (.tmp 11)), .none⟩,
  ⟨(some 143), (.mkif 145 (.const (.int .i64 1))), .none⟩,
  ⟨(some 6), (.mov (.tmp 142)), .none⟩,
  ⟨(some 7), (.mov (.tmp 143)), .none⟩] []) .ret) .skip)) (.seq (.region [⟨(some 144), (.mov (.tmp 13)), .none⟩,
  ⟨(some 145), (.mov (.tmp 1)), .none⟩,
  ⟨(some 146), (.conv (.int .u64) (.tmp 145)), .none⟩,
  ⟨(some 147), (.bin .mul .none (.tmp 144) (.tmp 146)), .none⟩,
  ⟨(some 13), (.mov (.tmp 147)), .none⟩] []) (.seq (.region [⟨(some 148), (.mov (.tmp 13)), .none⟩,
  ⟨(some 149), (.mov (.tmp 16)), .none⟩,
  ⟨(some 150), (.conv (.int .u64) (.tmp 149)), .none⟩,
  ⟨(some 151), (.bin .add .none (.tmp 148) (.tmp 150)), .none⟩,
  ⟨(some 17), (.mov (.tmp 151)), .none⟩] []) (.seq (.seq (.region [⟨(some 152), (.mov (.tmp 17)), .none⟩,
  ⟨(some 153), (.mov (.tmp 13)), .none⟩,
  ⟨(some 154), (.bin .lss .none (.tmp 152) (.tmp 153)), .none⟩,
  ⟨(some 155), (.mov (.tmp 154)), .none⟩,
  ⟨(some 156), (.mov (.tmp 17)), (some (155, false))⟩,
  ⟨(some 157), (.mov (.tmp 11)), (some (155, false))⟩,
  ⟨(some 158), (.bin .gtr .none (.tmp 156) (.tmp 157)), (some (155, false))⟩,
  ⟨(some 159), (.pick (.tmp 155) (.const (.bool true)) (.tmp 158)), .none⟩] []) (.cond (.tmp 159) (.seq (.region [⟨(some 160), (.mov (.tmp 11)), .none⟩,
  ⟨(some 161), (.mkif 145 (.const (.int .i64 1))), .none⟩,
  ⟨(some 6), (.mov (.tmp 160)), .none⟩,
  ⟨(some 7), (.mov (.tmp 161)), .none⟩] []) .ret) .skip)) (.region [⟨(some 162), (.mov (.tmp 17)), .none⟩,
  ⟨(some 13), (.mov (.tmp 162)), .none⟩] [])))))))))) (.region [⟨(some 163), (.bin .add .none (.tmp 101) (.const (.int .i64 1))), .none⟩,
  ⟨(some 101), (.mov (.tmp 163)), .none⟩] []))))
def R_internal_strconv_ParseUint : RFunc := ⟨3, 172, [(.tmp 6), (.tmp 7)], (.seq (.region [⟨(some 6), (.mov (.const (.int .u64 0))), .none⟩,
  ⟨(some 7), (.mov (.const .nilIface)), .none⟩] []) (.seq (.seq (.region [⟨(some 18), (.mov (.tmp 0)), .none⟩,
  ⟨(some 19), (.bin .eql .none (.tmp 18) (.const (.str []))), .none⟩] []) (.cond (.tmp 19) (.seq (.region [⟨(some 20), (.mkif 145 (.const (.int .i64 2))), .none⟩,
  ⟨(some 6), (.mov (.const (.int .u64 0))), .none⟩,
  ⟨(some 7), (.mov (.tmp 20)), .none⟩] []) .ret) .skip)) (.seq (.region [⟨(some 21), (.mov (.tmp 1)), .none⟩,
  ⟨(some 22), (.bin .eql .none (.tmp 21) (.const (.int .i64 0))), .none⟩,
  ⟨(some 8), (.mov (.tmp 22)), .none⟩] []) (.seq (.region [⟨(some 23), (.mov (.tmp 0)), .none⟩,
  ⟨(some 9), (.mov (.tmp 23)), .none⟩] []) (.seq J_internal_strconv_ParseUint_1 (.seq J_internal_strconv_ParseUint_5 (.seq (.region [⟨(some 10), (.mov (.const (.int .u64 0))), .none⟩] []) (.seq J_internal_strconv_ParseUint_6 (.seq (.region [⟨(some 94), (.mov (.tmp 2)), .none⟩,
  ⟨(some 95), (.conv (.int .u64) (.tmp 94)), .none⟩,
  ⟨(some 96), (.bin .shl .none (.const (.int .u64 1)) (.tmp 95)), .none⟩,
  ⟨(some 97), (.bin .sub .none (.tmp 96) (.const (.int .u64 1))), .none⟩,
  ⟨(some 11), (.mov (.tmp 97)), .none⟩] []) (.seq (.region [⟨(some 12), (.mov (.const (.bool false))), .none⟩] []) (.seq (.region [⟨(some 13), (.mov (.const (.int .u64 0))), .none⟩] []) (.seq (.seq (.region [⟨(some 98), (.mov (.tmp 0)), .none⟩,
  ⟨(some 99), (.conv .s2b (.tmp 98)), .none⟩,
  ⟨(some 100), (.len false (.tmp 99)), .none⟩,
  ⟨(some 101), (.mov (.const (.int .i64 0))), .none⟩] []) (.block 3 (.loop L_internal_strconv_ParseUint_1))) (.seq (.seq (.region [⟨(some 164), (.mov (.tmp 12)), .none⟩,
  ⟨(some 165), (.mov (.tmp 164)), .none⟩,
  ⟨(some 166), (.mov (.tmp 9)), (some (165, true))⟩,
  ⟨(some 167), (.pcall 109 [(.tmp 166)]), (some (165, true))⟩,
  ⟨(some 168), (.un .not (.tmp 167)), (some (165, true))⟩,
  ⟨(some 169), (.pick (.tmp 165) (.tmp 168) (.const (.bool false))), .none⟩] []) (.cond (.tmp 169) (.seq (.region [⟨(some 170), (.mkif 145 (.const (.int .i64 2))), .none⟩,
  ⟨(some 6), (.mov (.const (.int .u64 0))), .none⟩,
  ⟨(some 7), (.mov (.tmp 170)), .none⟩] []) .ret) .skip)) (.seq (.region [⟨(some 171), (.mov (.tmp 13)), .none⟩,
  ⟨(some 6), (.mov (.tmp 171)), .none⟩,
  ⟨(some 7), (.mov (.const .nilIface)), .none⟩] []) .ret))))))))))))))⟩
def R_strconv_toError : RFunc := ⟨5, 43, [(.tmp 10)], (.seq (.region [⟨(some 10), (.mov (.const .nilIface)), .none⟩] []) (.seq (.seq (.region [⟨(some 11), (.mov (.tmp 4)), .none⟩] []) (.block 0 (.seq (.region [⟨(some 13), (.mkif 145 (.const (.int .i64 2))), .none⟩,
  ⟨(some 14), (.bin .eql (.ifaceI [145]) (.tmp 11) (.tmp 13)), .none⟩,
  ⟨(some 12), (.mov (.tmp 14)), .none⟩] []) (.cond (.tmp 12) (.seq (.region [⟨(some 15), (.mov (.tmp 0)), .none⟩,
  ⟨(some 16), (.mov (.tmp 1)), .none⟩,
  ⟨(some 17), (.call (.const (.func 110 [] [])) [(.tmp 15), (.tmp 16)]), .none⟩,
  ⟨(some 18), (.mkif 147 (.tmp 17)), .none⟩,
  ⟨(some 10), (.mov (.tmp 18)), .none⟩] []) .ret) (.seq (.region [⟨(some 20), (.mkif 145 (.const (.int .i64 1))), .none⟩,
  ⟨(some 21), (.bin .eql (.ifaceI [145]) (.tmp 11) (.tmp 20)), .none⟩,
  ⟨(some 19), (.mov (.tmp 21)), .none⟩] []) (.cond (.tmp 19) (.seq (.region [⟨(some 22), (.mov (.tmp 0)), .none⟩,
  ⟨(some 23), (.mov (.tmp 1)), .none⟩,
  ⟨(some 24), (.call (.const (.func 111 [] [])) [(.tmp 22), (.tmp 23)]), .none⟩,
  ⟨(some 25), (.mkif 147 (.tmp 24)), .none⟩,
  ⟨(some 10), (.mov (.tmp 25)), .none⟩] []) .ret) (.seq (.region [⟨(some 27), (.mkif 145 (.const (.int .i64 3))), .none⟩,
  ⟨(some 28), (.bin .eql (.ifaceI [145]) (.tmp 11) (.tmp 27)), .none⟩,
  ⟨(some 26), (.mov (.tmp 28)), .none⟩] []) (.cond (.tmp 26) (.seq (.region [⟨(some 29), (.mov (.tmp 0)), .none⟩,
  ⟨(some 30), (.mov (.tmp 1)), .none⟩,
  ⟨(some 31), (.mov (.tmp 2)), .none⟩,
  ⟨(some 32), (.pcall 112 [(.tmp 29), (.tmp 30), (.tmp 31)]), .none⟩,
  ⟨(some 33), (.mkif 147 (.tmp 32)), .none⟩,
  ⟨(some 10), (.mov (.tmp 33)), .none⟩] []) .ret) (.seq (.region [⟨(some 35), (.mkif 145 (.const (.int .i64 4))), .none⟩,
  ⟨(some 36), (.bin .eql (.ifaceI [145]) (.tmp 11) (.tmp 35)), .none⟩,
  ⟨(some 34), (.mov (.tmp 36)), .none⟩] []) (.cond (.tmp 34) (.seq (.region [⟨(some 37), (.mov (.tmp 0)), .none⟩,
  ⟨(some 38), (.mov (.tmp 1)), .none⟩,
  ⟨(some 39), (.mov (.tmp 3)), .none⟩,
  ⟨(some 40), (.pcall 113 [(.tmp 37), (.tmp 38), (.tmp 39)]), .none⟩,
  ⟨(some 41), (.mkif 147 (.tmp 40)), .none⟩,
  ⟨(some 10), (.mov (.tmp 41)), .none⟩] []) .ret) .skip)))))))))) (.seq (.region [⟨(some 42), (.mov (.tmp 4)), .none⟩,
  ⟨(some 10), (.mov (.tmp 42)), .none⟩] []) .ret)))⟩
def J_cond_Char_1 : RCode := (.seq (.region [⟨(some 20), (.mov (.tmp 5)), .none⟩,
  ⟨(some 21), (.un .not (.tmp 20)), .none⟩,
  ⟨(some 22), (.mov (.tmp 21)), .none⟩,
  ⟨(some 23), (.mov (.tmp 6)), (some (22, false))⟩,
  ⟨(some 24), (.un .not (.tmp 23)), (some (22, false))⟩,
  ⟨(some 25), (.pick (.tmp 22) (.const (.bool true)) (.tmp 24)), .none⟩,
  ⟨(some 26), (.mov (.tmp 25)), .none⟩,
  ⟨(some 27), (.mov (.tmp 4)), (some (26, false))⟩,
  ⟨(some 28), (.bin .eql .none (.tmp 27) (.const (.str []))), (some (26, false))⟩,
  ⟨(some 29), (.pick (.tmp 26) (.const (.bool true)) (.tmp 28)), .none⟩] []) (.cond (.tmp 29) (.seq (.region [⟨(some 2), (.mov (.const (.int .i64 0))), .none⟩,
  ⟨(some 3), (.mov (.const (.int .i64 50))), .none⟩] []) .ret) .skip))
def J_cond_Char_2 : RCode := (.seq (.region [⟨(some 38), (.mov (.tmp 7)), .none⟩,
  ⟨(some 39), (.bin .eql .none (.tmp 38) (.const (.int .u8 92))), .none⟩] []) (.cond (.tmp 39) (.region [⟨(some 41), (.mov (.tmp 8)), .none⟩,
  ⟨(some 42), (.pcall 120 [(.tmp 41)]), .none⟩,
  ⟨(some 40), (.mov (.tmp 42)), .none⟩,
  ⟨(some 43), (.extract 0 (.tmp 40)), .none⟩,
  ⟨(some 44), (.extract 1 (.tmp 40)), .none⟩,
  ⟨(some 45), (.extract 2 (.tmp 40)), .none⟩,
  ⟨(some 7), (.mov (.tmp 43)), .none⟩,
  ⟨(some 8), (.mov (.tmp 44)), .none⟩,
  ⟨(some 9), (.mov (.tmp 45)), .none⟩] []) .skip))
def R_cond_Char : RFunc := ⟨1, 55, [(.tmp 2), (.tmp 3)], (.seq (.region [⟨(some 2), (.mov (.const (.int .i64 0))), .none⟩,
  ⟨(some 3), (.mov (.const (.int .i64 0))), .none⟩] []) (.seq (.region [⟨(some 11), (.mov (.tmp 0)), .none⟩,
  ⟨(some 12), (.ocall 118 [(.tmp 11), (.const (.str [39]))]), .none⟩,
  ⟨(some 10), (.mov (.tmp 12)), .none⟩,
  ⟨(some 13), (.extract 0 (.tmp 10)), .none⟩,
  ⟨(some 14), (.extract 1 (.tmp 10)), .none⟩,
  ⟨(some 4), (.mov (.tmp 13)), .none⟩,
  ⟨(some 5), (.mov (.tmp 14)), .none⟩] []) (.seq (.region [⟨(some 16), (.mov (.tmp 4)), .none⟩,
  ⟨(some 17), (.ocall 119 [(.tmp 16), (.const (.str [39]))]), .none⟩,
  ⟨(some 15), (.mov (.tmp 17)), .none⟩,
  ⟨(some 18), (.extract 0 (.tmp 15)), .none⟩,
  ⟨(some 19), (.extract 1 (.tmp 15)), .none⟩,
  ⟨(some 4), (.mov (.tmp 18)), .none⟩,
  ⟨(some 6), (.mov (.tmp 19)), .none⟩] []) (.seq J_cond_Char_1 (.seq (.region [⟨(some 30), (.mov (.tmp 4)), .none⟩,
  ⟨(some 31), (.indexS (.tmp 30) (.const (.int .i64 0))), .none⟩,
  ⟨(some 32), (.mov (.tmp 4)), .none⟩,
  ⟨(some 33), (.sliceS (.tmp 32) (some (.const (.int .i64 1))) .none), .none⟩,
  ⟨(some 34), (.mov (.tmp 4)), .none⟩,
  ⟨(some 35), (.indexS (.tmp 34) (.const (.int .i64 0))), .none⟩,
  ⟨(some 36), (.ocall 82 [(.const (.str [39, 10, 13])), (.tmp 35)]), .none⟩,
  ⟨(some 37), (.bin .lss .none (.tmp 36) (.const (.int .i64 0))), .none⟩,
  ⟨(some 7), (.mov (.tmp 31)), .none⟩,
  ⟨(some 8), (.mov (.tmp 33)), .none⟩,
  ⟨(some 9), (.mov (.tmp 37)), .none⟩] []) (.seq J_cond_Char_2 (.seq (.seq (.region [⟨(some 46), (.mov (.tmp 9)), .none⟩,
  ⟨(some 47), (.un .not (.tmp 46)), .none⟩,
  ⟨(some 48), (.mov (.tmp 47)), .none⟩,
  ⟨(some 49), (.mov (.tmp 8)), (some (48, false))⟩,
  ⟨(some 50), (.bin .neq .none (.tmp 49) (.const (.str []))), (some (48, false))⟩,
  ⟨(some 51), (.pick (.tmp 48) (.const (.bool true)) (.tmp 50)), .none⟩] []) (.cond (.tmp 51) (.seq (.region [⟨(some 2), (.mov (.const (.int .i64 0))), .none⟩,
  ⟨(some 3), (.mov (.const (.int .i64 50))), .none⟩] []) .ret) .skip)) (.seq (.region [⟨(some 52), (.mov (.tmp 7)), .none⟩,
  ⟨(some 53), (.conv (.int .i8) (.tmp 52)), .none⟩,
  ⟨(some 54), (.conv (.int .i64) (.tmp 53)), .none⟩,
  ⟨(some 2), (.mov (.tmp 54)), .none⟩,
  ⟨(some 3), (.mov (.const (.int .i64 0))), .none⟩] []) .ret))))))))⟩
def R_cond_eval_unary : RFunc := ⟨2, 49, [(.cell 4 (some 2))], (.seq (.region [⟨(some 4), (.alloc 70 [(.int .u64 0), (.bool false)]), .none⟩] []) (.seq (.block 0 (.seq (.region [⟨(some 8), (.mov (.tmp 0)), .none⟩,
  ⟨(some 9), (.call (.const (.func 61 [] [])) [(.tmp 8), (.const (.str [43]))]), .none⟩,
  ⟨(some 7), (.mov (.tmp 9)), .none⟩] []) (.cond (.tmp 7) (.seq (.region [⟨(some 10), (.mov (.tmp 0)), .none⟩,
  ⟨(some 11), (.mov (.tmp 1)), .none⟩,
  ⟨(some 12), (.call (.const (.func 86 [] [])) [(.tmp 10), (.tmp 11)]), .none⟩,
  ⟨.none, (.store 2 (.tmp 4) (.tmp 12)), .none⟩] []) .ret) (.seq (.region [⟨(some 14), (.mov (.tmp 0)), .none⟩,
  ⟨(some 15), (.call (.const (.func 61 [] [])) [(.tmp 14), (.const (.str [45]))]), .none⟩,
  ⟨(some 13), (.mov (.tmp 15)), .none⟩] []) (.cond (.tmp 13) (.seq (.region [⟨(some 16), (.mov (.tmp 0)), .none⟩,
  ⟨(some 17), (.mov (.tmp 1)), .none⟩,
  ⟨(some 18), (.call (.const (.func 86 [] [])) [(.tmp 16), (.tmp 17)]), .none⟩,
  ⟨(some 5), (.alloc 70 [(.int .u64 0), (.bool false)]), .none⟩,
  ⟨.none, (.store 2 (.tmp 5) (.tmp 18)), .none⟩] []) (.seq (.region [⟨(some 19), (.faddr 0 (.tmp 5)), .none⟩,
  ⟨(some 20), (.load .none (.tmp 19)), .none⟩,
  ⟨(some 21), (.un .neg (.tmp 20)), .none⟩,
  ⟨(some 22), (.faddr 1 (.tmp 5)), .none⟩,
  ⟨(some 23), (.load .none (.tmp 22)), .none⟩,
  ⟨(some 24), (.build [(.int .u64 0), (.bool false)] [(0, (1, (.tmp 21))), (1, (1, (.tmp 23)))]), .none⟩,
  ⟨.none, (.store 2 (.tmp 4) (.tmp 24)), .none⟩] []) .ret)) (.seq (.region [⟨(some 26), (.mov (.tmp 0)), .none⟩,
  ⟨(some 27), (.call (.const (.func 61 [] [])) [(.tmp 26), (.const (.str [126]))]), .none⟩,
  ⟨(some 25), (.mov (.tmp 27)), .none⟩] []) (.cond (.tmp 25) (.seq (.region [⟨(some 28), (.mov (.tmp 0)), .none⟩,
  ⟨(some 29), (.mov (.tmp 1)), .none⟩,
  ⟨(some 30), (.call (.const (.func 86 [] [])) [(.tmp 28), (.tmp 29)]), .none⟩,
  ⟨(some 6), (.alloc 70 [(.int .u64 0), (.bool false)]), .none⟩,
  ⟨.none, (.store 2 (.tmp 6) (.tmp 30)), .none⟩] []) (.seq (.region [⟨(some 31), (.faddr 0 (.tmp 6)), .none⟩,
  ⟨(some 32), (.load .none (.tmp 31)), .none⟩,
  ⟨(some 33), (.un .xor (.tmp 32)), .none⟩,
  ⟨(some 34), (.faddr 1 (.tmp 6)), .none⟩,
  ⟨(some 35), (.load .none (.tmp 34)), .none⟩,
  ⟨(some 36), (.build [(.int .u64 0), (.bool false)] [(0, (1, (.tmp 33))), (1, (1, (.tmp 35)))]), .none⟩,
  ⟨.none, (.store 2 (.tmp 4) (.tmp 36)), .none⟩] []) .ret)) (.seq (.region [⟨(some 38), (.mov (.tmp 0)), .none⟩,
  ⟨(some 39), (.call (.const (.func 61 [] [])) [(.tmp 38), (.const (.str [33]))]), .none⟩,
  ⟨(some 37), (.mov (.tmp 39)), .none⟩] []) (.cond (.tmp 37) (.seq (.region [⟨(some 40), (.mov (.tmp 0)), .none⟩,
  ⟨(some 41), (.mov (.tmp 1)), .none⟩,
  ⟨(some 42), (.call (.const (.func 86 [] [])) [(.tmp 40), (.tmp 41)]), .none⟩,
  ⟨(some 43), (.field 0 .none (.tmp 42)), .none⟩,
  ⟨(some 44), (.bin .eql .none (.tmp 43) (.const (.int .u64 0))), .none⟩,
  ⟨(some 45), (.pcall 89 [(.tmp 44)]), .none⟩,
  ⟨.none, (.store 2 (.tmp 4) (.tmp 45)), .none⟩] []) .ret) .skip))))))))) (.seq (.region [⟨(some 46), (.mov (.tmp 0)), .none⟩,
  ⟨(some 47), (.mov (.tmp 1)), .none⟩,
  ⟨(some 48), (.call (.const (.func 125 [] [])) [(.tmp 46), (.tmp 47)]), .none⟩,
  ⟨.none, (.store 2 (.tmp 4) (.tmp 48)), .none⟩] []) .ret)))⟩
def R_cond_eval_sign : RFunc := ⟨1, 32, [(.tmp 2)], (.seq (.region [⟨(some 2), (.mov (.const (.str []))), .none⟩] []) (.seq (.seq (.region (⟨(some 3), (.mov (.tmp 0)), .none⟩ ::
  ⟨(some 4), (.nilck (.tmp 3)), .none⟩ ::
  ⟨(some 5), (.faddr 1 (.tmp 4)), .none⟩ ::
  ⟨(some 6), (.load .none (.tmp 5)), .none⟩ ::
  ⟨(some 7), (.mov (.tmp 6)), .none⟩ ::
  ⟨(some 8), (.mov (.tmp 0)), (some (7, false))⟩ ::
  ⟨(some 9), (.nilck (.tmp 8)), (some (7, false))⟩ ::
  ⟨(some 10), (.faddr 0 (.tmp 9)), (some (7, false))⟩ ::
  ⟨(some 11), (.load .none (.tmp 10)), (some (7, false))⟩ ::
  ⟨(some 12), (.len false (.tmp 11)), (some (7, false))⟩ ::
  ⟨(some 13), (.bin .eql .none (.tmp 12) (.const (.int .i64 0))), (some (7, false))⟩ ::
  ⟨(some 14), (.pick (.tmp 7) (.const (.bool true)) (.tmp 13)), .none⟩ ::
  ⟨(some 15), (.mov (.tmp 14)), .none⟩ ::
  ⟨(some 16), (.mov (.tmp 0)), (some (15, false))⟩ ::
  ⟨(some 17), (.nilck (.tmp 16)), (some (15, false))⟩ ::
  ⟨(some 18), (.faddr 0 (.tmp 17)), (some (15, false))⟩ ::
  ⟨(some 19), (.load .none (.tmp 18)), (some (15, false))⟩ ::
  ⟨(some 20), (.iaddr 6 (.tmp 19) (.const (.int .i64 0))), (some (15, false))⟩ ::
  ⟨(some 21), (.faddr 0 (.tmp 20)), (some (15, false))⟩ ::
  ⟨(some 22), (.load .none (.tmp 21)), (some (15, false))⟩ ::
  ⟨(some 23), (.bin .neq .none (.tmp 22) (.const (.int .i64 5))), (some (15, false))⟩ ::
  ⟨(some 24), (.pick (.tmp 15) (.const (.bool true)) (.tmp 23)), .none⟩ :: []) []) (.cond (.tmp 24) (.seq (.region [⟨(some 2), (.mov (.const (.str []))), .none⟩] []) .ret) .skip)) (.seq (.region [⟨(some 25), (.mov (.tmp 0)), .none⟩,
  ⟨(some 26), (.nilck (.tmp 25)), .none⟩,
  ⟨(some 27), (.faddr 0 (.tmp 26)), .none⟩,
  ⟨(some 28), (.load .none (.tmp 27)), .none⟩,
  ⟨(some 29), (.iaddr 6 (.tmp 28) (.const (.int .i64 0))), .none⟩,
  ⟨(some 30), (.faddr 1 (.tmp 29)), .none⟩,
  ⟨(some 31), (.load .none (.tmp 30)), .none⟩,
  ⟨(some 2), (.mov (.tmp 31)), .none⟩] []) .ret)))⟩
def J_cond_levelOf_1 : RCode := (.seq (.region [⟨(some 9), (.bin .eql .none (.tmp 3) (.const (.str [124]))), .none⟩,
  ⟨(some 8), (.mov (.tmp 9)), .none⟩] []) (.cond (.tmp 8) .skip (.seq (.region [⟨(some 10), (.bin .eql .none (.tmp 3) (.const (.str [94]))), .none⟩,
  ⟨(some 8), (.mov (.tmp 10)), .none⟩] []) (.cond (.tmp 8) .skip (.region [⟨(some 11), (.bin .eql .none (.tmp 3) (.const (.str [38]))), .none⟩,
  ⟨(some 8), (.mov (.tmp 11)), .none⟩] [])))))
def J_cond_levelOf_2 : RCode := (.seq (.region [⟨(some 16), (.bin .eql .none (.tmp 3) (.const (.str [61, 61]))), .none⟩,
  ⟨(some 15), (.mov (.tmp 16)), .none⟩] []) (.cond (.tmp 15) .skip (.region [⟨(some 17), (.bin .eql .none (.tmp 3) (.const (.str [33, 61]))), .none⟩,
  ⟨(some 15), (.mov (.tmp 17)), .none⟩] [])))
def J_cond_levelOf_3 : RCode := (.seq (.region [⟨(some 19), (.bin .eql .none (.tmp 3) (.const (.str [60]))), .none⟩,
  ⟨(some 18), (.mov (.tmp 19)), .none⟩] []) (.cond (.tmp 18) .skip (.seq (.region [⟨(some 20), (.bin .eql .none (.tmp 3) (.const (.str [62]))), .none⟩,
  ⟨(some 18), (.mov (.tmp 20)), .none⟩] []) (.cond (.tmp 18) .skip (.seq (.region [⟨(some 21), (.bin .eql .none (.tmp 3) (.const (.str [60, 61]))), .none⟩,
  ⟨(some 18), (.mov (.tmp 21)), .none⟩] []) (.cond (.tmp 18) .skip (.region [⟨(some 22), (.bin .eql .none (.tmp 3) (.const (.str [62, 61]))), .none⟩,
  ⟨(some 18), (.mov (.tmp 22)), .none⟩] [])))))))
def J_cond_levelOf_4 : RCode := (.seq (.region [⟨(some 24), (.bin .eql .none (.tmp 3) (.const (.str [60, 60]))), .none⟩,
  ⟨(some 23), (.mov (.tmp 24)), .none⟩] []) (.cond (.tmp 23) .skip (.region [⟨(some 25), (.bin .eql .none (.tmp 3) (.const (.str [62, 62]))), .none⟩,
  ⟨(some 23), (.mov (.tmp 25)), .none⟩] [])))
def J_cond_levelOf_5 : RCode := (.seq (.region [⟨(some 27), (.bin .eql .none (.tmp 3) (.const (.str [43]))), .none⟩,
  ⟨(some 26), (.mov (.tmp 27)), .none⟩] []) (.cond (.tmp 26) .skip (.region [⟨(some 28), (.bin .eql .none (.tmp 3) (.const (.str [45]))), .none⟩,
  ⟨(some 26), (.mov (.tmp 28)), .none⟩] [])))
def R_cond_levelOf : RFunc := ⟨1, 33, [(.tmp 2)], (.seq (.region [⟨(some 2), (.mov (.const (.int .i64 0))), .none⟩] []) (.seq (.seq (.region [⟨(some 3), (.mov (.tmp 0)), .none⟩] []) (.block 0 (.seq (.region [⟨(some 5), (.bin .eql .none (.tmp 3) (.const (.str [124, 124]))), .none⟩,
  ⟨(some 4), (.mov (.tmp 5)), .none⟩] []) (.cond (.tmp 4) (.seq (.region [⟨(some 2), (.mov (.const (.int .i64 1))), .none⟩] []) .ret) (.seq (.region [⟨(some 7), (.bin .eql .none (.tmp 3) (.const (.str [38, 38]))), .none⟩,
  ⟨(some 6), (.mov (.tmp 7)), .none⟩] []) (.cond (.tmp 6) (.seq (.region [⟨(some 2), (.mov (.const (.int .i64 2))), .none⟩] []) .ret) (.seq J_cond_levelOf_1 (.cond (.tmp 8) (.seq (.region [⟨(some 12), (.mov (.tmp 0)), .none⟩,
  ⟨(some 13), (.ocall 107 [(.const (.str [124, 94, 38])), (.tmp 12)]), .none⟩,
  ⟨(some 14), (.bin .add .none (.const (.int .i64 3)) (.tmp 13)), .none⟩,
  ⟨(some 2), (.mov (.tmp 14)), .none⟩] []) .ret) (.seq J_cond_levelOf_2 (.cond (.tmp 15) (.seq (.region [⟨(some 2), (.mov (.const (.int .i64 6))), .none⟩] []) .ret) (.seq J_cond_levelOf_3 (.cond (.tmp 18) (.seq (.region [⟨(some 2), (.mov (.const (.int .i64 7))), .none⟩] []) .ret) (.seq J_cond_levelOf_4 (.cond (.tmp 23) (.seq (.region [⟨(some 2), (.mov (.const (.int .i64 8))), .none⟩] []) .ret) (.seq J_cond_levelOf_5 (.cond (.tmp 26) (.seq (.region [⟨(some 2), (.mov (.const (.int .i64 9))), .none⟩] []) .ret) (.seq (.seq (.region [⟨(some 30), (.bin .eql .none (.tmp 3) (.const (.str [42]))), .none⟩,
  ⟨(some 29), (.mov (.tmp 30)), .none⟩] []) (.cond (.tmp 29) .skip (.seq (.region [⟨(some 31), (.bin .eql .none (.tmp 3) (.const (.str [47]))), .none⟩,
  ⟨(some 29), (.mov (.tmp 31)), .none⟩] []) (.cond (.tmp 29) .skip (.region [⟨(some 32), (.bin .eql .none (.tmp 3) (.const (.str [37]))), .none⟩,
  ⟨(some 29), (.mov (.tmp 32)), .none⟩] []))))) (.cond (.tmp 29) (.seq (.region [⟨(some 2), (.mov (.const (.int .i64 10))), .none⟩] []) .ret) .skip)))))))))))))))))) (.seq (.region [⟨(some 2), (.mov (.const (.int .i64 0))), .none⟩] []) .ret)))⟩
def R_cond_truth : RFunc := ⟨1, 6, [(.cell 2 (some 2))], (.seq (.region [⟨(some 2), (.alloc 70 [(.int .u64 0), (.bool false)]), .none⟩] []) (.seq (.seq (.region [⟨(some 3), (.mov (.tmp 0)), .none⟩] []) (.cond (.tmp 3) (.seq (.region [⟨(some 4), (.build [(.int .u64 0), (.bool false)] [(0, (1, (.const (.int .u64 1))))]), .none⟩,
  ⟨.none, (.store 2 (.tmp 2) (.tmp 4)), .none⟩] []) .ret) .skip)) (.seq (.region [⟨(some 5), (.build [(.int .u64 0), (.bool false)] []), .none⟩,
  ⟨.none, (.store 2 (.tmp 2) (.tmp 5)), .none⟩] []) .ret)))⟩
def J_cond_eval_binary_1 : RCode := (.region [⟨(some 12), (.faddr 1 (.tmp 7)), .none⟩,
  ⟨(some 13), (.load .none (.tmp 12)), .none⟩,
  ⟨(some 14), (.mov (.tmp 13)), .none⟩,
  ⟨(some 15), (.faddr 1 (.tmp 8)), (some (14, false))⟩,
  ⟨(some 16), (.load .none (.tmp 15)), (some (14, false))⟩,
  ⟨(some 17), (.pick (.tmp 14) (.const (.bool true)) (.tmp 16)), .none⟩,
  ⟨(some 11), (.mov (.tmp 17)), .none⟩] [])
def J_cond_eval_binary_2 : RCode := (.seq (.region [⟨(some 29), (.bin .eql .none (.tmp 18) (.const (.str [47]))), .none⟩,
  ⟨(some 28), (.mov (.tmp 29)), .none⟩] []) (.cond (.tmp 28) .skip (.region [⟨(some 30), (.bin .eql .none (.tmp 18) (.const (.str [37]))), .none⟩,
  ⟨(some 28), (.mov (.tmp 30)), .none⟩] [])))
def J_cond_eval_binary_3 : RCode := (.seq (.region [⟨(some 56), (.bin .eql .none (.tmp 18) (.const (.str [60, 60]))), .none⟩,
  ⟨(some 55), (.mov (.tmp 56)), .none⟩] []) (.cond (.tmp 55) .skip (.region [⟨(some 57), (.bin .eql .none (.tmp 18) (.const (.str [62, 62]))), .none⟩,
  ⟨(some 55), (.mov (.tmp 57)), .none⟩] [])))
def R_cond_eval_binary : RFunc := ⟨5, 95, [(.cell 10 (some 2))], (.seq (.region [⟨(some 7), (.box 70 (.tmp 2)), .none⟩,
  ⟨(some 8), (.box 70 (.tmp 3)), .none⟩,
  ⟨(some 10), (.alloc 70 [(.int .u64 0), (.bool false)]), .none⟩] []) (.seq J_cond_eval_binary_1 (.seq (.seq (.region [⟨(some 18), (.mov (.tmp 1)), .none⟩] []) (.block 0 (.seq (.region [⟨(some 20), (.bin .eql .none (.tmp 18) (.const (.str [42]))), .none⟩,
  ⟨(some 19), (.mov (.tmp 20)), .none⟩] []) (.cond (.tmp 19) (.seq (.region [⟨(some 21), (.faddr 0 (.tmp 7)), .none⟩,
  ⟨(some 22), (.load .none (.tmp 21)), .none⟩,
  ⟨(some 23), (.faddr 0 (.tmp 8)), .none⟩,
  ⟨(some 24), (.load .none (.tmp 23)), .none⟩,
  ⟨(some 25), (.bin .mul .none (.tmp 22) (.tmp 24)), .none⟩,
  ⟨(some 26), (.mov (.tmp 11)), .none⟩,
  ⟨(some 27), (.build [(.int .u64 0), (.bool false)] [(0, (1, (.tmp 25))), (1, (1, (.tmp 26)))]), .none⟩,
  ⟨.none, (.store 2 (.tmp 10) (.tmp 27)), .none⟩] []) .ret) (.seq J_cond_eval_binary_2 (.cond (.tmp 28) (.seq (.region [⟨(some 31), (.mov (.tmp 0)), .none⟩,
  ⟨(some 32), (.mov (.tmp 1)), .none⟩,
  ⟨(some 33), (.load (some 2) (.tmp 7)), .none⟩,
  ⟨(some 34), (.load (some 2) (.tmp 8)), .none⟩,
  ⟨(some 35), (.mov (.tmp 4)), .none⟩,
  ⟨(some 36), (.call (.const (.func 126 [] [])) [(.tmp 31), (.tmp 32), (.tmp 33), (.tmp 34), (.tmp 35)]), .none⟩,
  ⟨.none, (.store 2 (.tmp 10) (.tmp 36)), .none⟩] []) .ret) (.seq (.region [⟨(some 38), (.bin .eql .none (.tmp 18) (.const (.str [43]))), .none⟩,
  ⟨(some 37), (.mov (.tmp 38)), .none⟩] []) (.cond (.tmp 37) (.seq (.region [⟨(some 39), (.faddr 0 (.tmp 7)), .none⟩,
  ⟨(some 40), (.load .none (.tmp 39)), .none⟩,
  ⟨(some 41), (.faddr 0 (.tmp 8)), .none⟩,
  ⟨(some 42), (.load .none (.tmp 41)), .none⟩,
  ⟨(some 43), (.bin .add .none (.tmp 40) (.tmp 42)), .none⟩,
  ⟨(some 44), (.mov (.tmp 11)), .none⟩,
  ⟨(some 45), (.build [(.int .u64 0), (.bool false)] [(0, (1, (.tmp 43))), (1, (1, (.tmp 44)))]), .none⟩,
  ⟨.none, (.store 2 (.tmp 10) (.tmp 45)), .none⟩] []) .ret) (.seq (.region [⟨(some 47), (.bin .eql .none (.tmp 18) (.const (.str [45]))), .none⟩,
  ⟨(some 46), (.mov (.tmp 47)), .none⟩] []) (.cond (.tmp 46) (.seq (.region [⟨(some 48), (.faddr 0 (.tmp 7)), .none⟩,
  ⟨(some 49), (.load .none (.tmp 48)), .none⟩,
  ⟨(some 50), (.faddr 0 (.tmp 8)), .none⟩,
  ⟨(some 51), (.load .none (.tmp 50)), .none⟩,
  ⟨(some 52), (.bin .sub .none (.tmp 49) (.tmp 51)), .none⟩,
  ⟨(some 53), (.mov (.tmp 11)), .none⟩,
  ⟨(some 54), (.build [(.int .u64 0), (.bool false)] [(0, (1, (.tmp 52))), (1, (1, (.tmp 53)))]), .none⟩,
  ⟨.none, (.store 2 (.tmp 10) (.tmp 54)), .none⟩] []) .ret) (.seq J_cond_eval_binary_3 (.cond (.tmp 55) (.seq (.region [⟨(some 58), (.mov (.tmp 0)), .none⟩,
  ⟨(some 59), (.mov (.tmp 1)), .none⟩,
  ⟨(some 60), (.load (some 2) (.tmp 7)), .none⟩,
  ⟨(some 61), (.load (some 2) (.tmp 8)), .none⟩,
  ⟨(some 62), (.mov (.tmp 4)), .none⟩,
  ⟨(some 63), (.call (.const (.func 127 [] [])) [(.tmp 58), (.tmp 59), (.tmp 60), (.tmp 61), (.tmp 62)]), .none⟩,
  ⟨.none, (.store 2 (.tmp 10) (.tmp 63)), .none⟩] []) .ret) (.seq (.region [⟨(some 65), (.bin .eql .none (.tmp 18) (.const (.str [38]))), .none⟩,
  ⟨(some 64), (.mov (.tmp 65)), .none⟩] []) (.cond (.tmp 64) (.seq (.region [⟨(some 66), (.faddr 0 (.tmp 7)), .none⟩,
  ⟨(some 67), (.load .none (.tmp 66)), .none⟩,
  ⟨(some 68), (.faddr 0 (.tmp 8)), .none⟩,
  ⟨(some 69), (.load .none (.tmp 68)), .none⟩,
  ⟨(some 70), (.bin .and .none (.tmp 67) (.tmp 69)), .none⟩,
  ⟨(some 71), (.mov (.tmp 11)), .none⟩,
  ⟨(some 72), (.build [(.int .u64 0), (.bool false)] [(0, (1, (.tmp 70))), (1, (1, (.tmp 71)))]), .none⟩,
  ⟨.none, (.store 2 (.tmp 10) (.tmp 72)), .none⟩] []) .ret) (.seq (.region [⟨(some 74), (.bin .eql .none (.tmp 18) (.const (.str [94]))), .none⟩,
  ⟨(some 73), (.mov (.tmp 74)), .none⟩] []) (.cond (.tmp 73) (.seq (.region [⟨(some 75), (.faddr 0 (.tmp 7)), .none⟩,
  ⟨(some 76), (.load .none (.tmp 75)), .none⟩,
  ⟨(some 77), (.faddr 0 (.tmp 8)), .none⟩,
  ⟨(some 78), (.load .none (.tmp 77)), .none⟩,
  ⟨(some 79), (.bin .xor .none (.tmp 76) (.tmp 78)), .none⟩,
  ⟨(some 80), (.mov (.tmp 11)), .none⟩,
  ⟨(some 81), (.build [(.int .u64 0), (.bool false)] [(0, (1, (.tmp 79))), (1, (1, (.tmp 80)))]), .none⟩,
  ⟨.none, (.store 2 (.tmp 10) (.tmp 81)), .none⟩] []) .ret) (.seq (.region [⟨(some 83), (.bin .eql .none (.tmp 18) (.const (.str [124]))), .none⟩,
  ⟨(some 82), (.mov (.tmp 83)), .none⟩] []) (.cond (.tmp 82) (.seq (.region [⟨(some 84), (.faddr 0 (.tmp 7)), .none⟩,
  ⟨(some 85), (.load .none (.tmp 84)), .none⟩,
  ⟨(some 86), (.faddr 0 (.tmp 8)), .none⟩,
  ⟨(some 87), (.load .none (.tmp 86)), .none⟩,
  ⟨(some 88), (.bin .or .none (.tmp 85) (.tmp 87)), .none⟩,
  ⟨(some 89), (.mov (.tmp 11)), .none⟩,
  ⟨(some 90), (.build [(.int .u64 0), (.bool false)] [(0, (1, (.tmp 88))), (1, (1, (.tmp 89)))]), .none⟩,
  ⟨.none, (.store 2 (.tmp 10) (.tmp 90)), .none⟩] []) .ret) .skip)))))))))))))))))) (.seq (.region [⟨(some 91), (.mov (.tmp 1)), .none⟩,
  ⟨(some 92), (.load (some 2) (.tmp 7)), .none⟩,
  ⟨(some 93), (.load (some 2) (.tmp 8)), .none⟩,
  ⟨(some 94), (.pcall 128 [(.tmp 91), (.tmp 92), (.tmp 93)]), .none⟩,
  ⟨.none, (.store 2 (.tmp 10) (.tmp 94)), .none⟩] []) .ret))))⟩
def R_token_isLetter : RFunc := ⟨1, 15, [(.tmp 2)], (.seq (.region [⟨(some 2), (.mov (.const (.bool false))), .none⟩] []) (.seq (.region [⟨(some 3), (.mov (.tmp 0)), .none⟩,
  ⟨(some 4), (.bin .or .none (.tmp 3) (.const (.int .u8 32))), .none⟩,
  ⟨(some 5), (.bin .geq .none (.tmp 4) (.const (.int .u8 97))), .none⟩,
  ⟨(some 6), (.mov (.tmp 5)), .none⟩,
  ⟨(some 7), (.mov (.tmp 0)), (some (6, true))⟩,
  ⟨(some 8), (.bin .or .none (.tmp 7) (.const (.int .u8 32))), (some (6, true))⟩,
  ⟨(some 9), (.bin .leq .none (.tmp 8) (.const (.int .u8 122))), (some (6, true))⟩,
  ⟨(some 10), (.pick (.tmp 6) (.tmp 9) (.const (.bool false))), .none⟩,
  ⟨(some 11), (.mov (.tmp 10)), .none⟩,
  ⟨(some 12), (.mov (.tmp 0)), (some (11, false))⟩,
  ⟨(some 13), (.bin .eql .none (.tmp 12) (.const (.int .u8 95))), (some (11, false))⟩,
  ⟨(some 14), (.pick (.tmp 11) (.const (.bool true)) (.tmp 13)), .none⟩,
  ⟨(some 2), (.mov (.tmp 14)), .none⟩] []) .ret))⟩
def L_token_many_1 : RCode := (.seq (.seq (.region [⟨(some 6), (.mov (.tmp 5)), .none⟩,
  ⟨(some 7), (.mov (.tmp 0)), .none⟩,
  ⟨(some 8), (.len true (.tmp 7)), .none⟩,
  ⟨(some 9), (.bin .lss .none (.tmp 6) (.tmp 8)), .none⟩,
  ⟨(some 10), (.mov (.tmp 9)), .none⟩,
  ⟨(some 11), (.mov (.tmp 1)), (some (10, true))⟩,
  ⟨(some 12), (.mov (.tmp 5)), (some (10, true))⟩,
  ⟨(some 13), (.call (.tmp 11) [(.tmp 12)]), (some (10, true))⟩,
  ⟨(some 14), (.pick (.tmp 10) (.tmp 13) (.const (.bool false))), .none⟩] []) (.cond (.tmp 14) .skip (.exit 0))) (.block 1 (.region [⟨(some 15), (.mov (.tmp 5)), .none⟩,
  ⟨(some 16), (.bin .add .none (.tmp 15) (.const (.int .i64 1))), .none⟩,
  ⟨(some 5), (.mov (.tmp 16)), .none⟩] [])))
def R_token_many : RFunc := ⟨2, 18, [(.tmp 4)], (.seq (.region [⟨(some 4), (.mov (.const (.int .i64 0))), .none⟩] []) (.seq (.region [⟨(some 5), (.mov (.const (.int .i64 0))), .none⟩] []) (.seq (.block 0 (.loop L_token_many_1)) (.seq (.region [⟨(some 17), (.mov (.tmp 5)), .none⟩,
  ⟨(some 4), (.mov (.tmp 17)), .none⟩] []) .ret))))⟩
def R_token_next_1 : RFunc := ⟨2, 8, [(.tmp 3)], (.seq (.region [⟨(some 3), (.mov (.const (.bool false))), .none⟩] []) (.seq (.region [⟨(some 4), (.load .none (.tmp 1)), .none⟩,
  ⟨(some 5), (.mov (.tmp 0)), .none⟩,
  ⟨(some 6), (.indexS (.tmp 4) (.tmp 5)), .none⟩,
  ⟨(some 7), (.pcall 100 [(.tmp 6)]), .none⟩,
  ⟨(some 3), (.mov (.tmp 7)), .none⟩] []) .ret))⟩
def R_token_isWord : RFunc := ⟨1, 9, [(.tmp 2)], (.seq (.region [⟨(some 2), (.mov (.const (.bool false))), .none⟩] []) (.seq (.region [⟨(some 3), (.mov (.tmp 0)), .none⟩,
  ⟨(some 4), (.pcall 97 [(.tmp 3)]), .none⟩,
  ⟨(some 5), (.mov (.tmp 4)), .none⟩,
  ⟨(some 6), (.mov (.tmp 0)), (some (5, false))⟩,
  ⟨(some 7), (.pcall 101 [(.tmp 6)]), (some (5, false))⟩,
  ⟨(some 8), (.pick (.tmp 5) (.const (.bool true)) (.tmp 7)), .none⟩,
  ⟨(some 2), (.mov (.tmp 8)), .none⟩] []) .ret))⟩
def R_token_isDigit : RFunc := ⟨1, 9, [(.tmp 2)], (.seq (.region [⟨(some 2), (.mov (.const (.bool false))), .none⟩] []) (.seq (.region [⟨(some 3), (.mov (.tmp 0)), .none⟩,
  ⟨(some 4), (.bin .geq .none (.tmp 3) (.const (.int .u8 48))), .none⟩,
  ⟨(some 5), (.mov (.tmp 4)), .none⟩,
  ⟨(some 6), (.mov (.tmp 0)), (some (5, true))⟩,
  ⟨(some 7), (.bin .leq .none (.tmp 6) (.const (.int .u8 57))), (some (5, true))⟩,
  ⟨(some 8), (.pick (.tmp 5) (.tmp 7) (.const (.bool false))), .none⟩,
  ⟨(some 2), (.mov (.tmp 8)), .none⟩] []) .ret))⟩
def R_token_numeric : RFunc := ⟨1, 6, [(.tmp 2)], (.seq (.region [⟨(some 1), (.box 9 (.tmp 0)), .none⟩,
  ⟨(some 2), (.mov (.const (.int .i64 0))), .none⟩] []) (.seq (.region [⟨(some 3), (.load .none (.tmp 1)), .none⟩,
  ⟨(some 4), (.mkfunc 134 [] [(.tmp 1)]), .none⟩,
  ⟨(some 5), (.call (.const (.func 98 [] [])) [(.tmp 3), (.tmp 4)]), .none⟩,
  ⟨(some 2), (.mov (.tmp 5)), .none⟩] []) .ret))⟩
def L_token_quoted_1 : RCode := (.seq (.seq (.region [⟨(some 4), (.mov (.tmp 3)), .none⟩,
  ⟨(some 5), (.mov (.tmp 0)), .none⟩,
  ⟨(some 6), (.len true (.tmp 5)), .none⟩,
  ⟨(some 7), (.bin .lss .none (.tmp 4) (.tmp 6)), .none⟩] []) (.cond (.tmp 7) .skip (.exit 0))) (.seq (.block 1 (.seq (.region [⟨(some 10), (.mov (.tmp 0)), .none⟩,
  ⟨(some 11), (.mov (.tmp 3)), .none⟩,
  ⟨(some 12), (.indexS (.tmp 10) (.tmp 11)), .none⟩] []) (.block 2 (.seq (.region [⟨(some 14), (.bin .eql .none (.tmp 12) (.const (.int .u8 92))), .none⟩,
  ⟨(some 13), (.mov (.tmp 14)), .none⟩] []) (.cond (.tmp 13) (.region [⟨(some 15), (.mov (.tmp 3)), .none⟩,
  ⟨(some 16), (.bin .add .none (.tmp 15) (.const (.int .i64 1))), .none⟩,
  ⟨(some 3), (.mov (.tmp 16)), .none⟩] []) (.seq (.region [⟨(some 18), (.mov (.tmp 0)), .none⟩,
  ⟨(some 19), (.indexS (.tmp 18) (.const (.int .i64 0))), .none⟩,
  ⟨(some 20), (.bin .eql .none (.tmp 12) (.tmp 19)), .none⟩,
  ⟨(some 17), (.mov (.tmp 20)), .none⟩] []) (.cond (.tmp 17) (.seq (.region [⟨(some 21), (.mov (.tmp 3)), .none⟩,
  ⟨(some 22), (.bin .add .none (.tmp 21) (.const (.int .i64 1))), .none⟩,
  ⟨(some 2), (.mov (.tmp 22)), .none⟩] []) .ret) .skip))))))) (.region [⟨(some 8), (.mov (.tmp 3)), .none⟩,
  ⟨(some 9), (.bin .add .none (.tmp 8) (.const (.int .i64 1))), .none⟩,
  ⟨(some 3), (.mov (.tmp 9)), .none⟩] [])))
def R_token_quoted : RFunc := ⟨1, 23, [(.tmp 2)], (.seq (.region [⟨(some 2), (.mov (.const (.int .i64 0))), .none⟩] []) (.seq (.seq (.region [⟨(some 3), (.mov (.const (.int .i64 1))), .none⟩] []) (.block 0 (.loop L_token_quoted_1))) (.seq (.region [⟨(some 2), (.mov (.const (.int .i64 0))), .none⟩] []) .ret)))⟩
def R_internal_strconv_lower : RFunc := ⟨1, 5, [(.tmp 2)], (.seq (.region [⟨(some 2), (.mov (.const (.int .u8 0))), .none⟩] []) (.seq (.region [⟨(some 3), (.mov (.tmp 0)), .none⟩,
  ⟨(some 4), (.bin .or .none (.tmp 3) (.const (.int .u8 32))), .none⟩,
  ⟨(some 2), (.mov (.tmp 4)), .none⟩] []) .ret))⟩
def J_internal_strconv_underscoreOK_1 : RCode := (.seq (.region [⟨(some 6), (.mov (.tmp 0)), .none⟩,
  ⟨(some 7), (.len true (.tmp 6)), .none⟩,
  ⟨(some 8), (.bin .geq .none (.tmp 7) (.const (.int .i64 1))), .none⟩,
  ⟨(some 9), (.mov (.tmp 8)), .none⟩,
  ⟨(some 10), (.mov (.tmp 0)), (some (9, true))⟩,
  ⟨(some 11), (.indexS (.tmp 10) (.const (.int .i64 0))), (some (9, true))⟩,
  ⟨(some 12), (.bin .eql .none (.tmp 11) (.const (.int .u8 45))), (some (9, true))⟩,
  ⟨(some 13), (.mov (.tmp 12)), (some (9, true))⟩,
  ⟨(some 14), (.mov (.tmp 0)), (some (13, false))⟩,
  ⟨(some 15), (.indexS (.tmp 14) (.const (.int .i64 0))), (some (13, false))⟩,
  ⟨(some 16), (.bin .eql .none (.tmp 15) (.const (.int .u8 43))), (some (13, false))⟩,
  ⟨(some 17), (.pick (.tmp 13) (.const (.bool true)) (.tmp 16)), (some (9, true))⟩,
  ⟨(some 18), (.pick (.tmp 9) (.tmp 17) (.const (.bool false))), .none⟩] []) (.cond (.tmp 18) (.region [⟨(some 19), (.mov (.tmp 0)), .none⟩,
  ⟨(some 20), (.sliceS (.tmp 19) (some (.const (.int .i64 1))) .none), .none⟩,
  ⟨(some 0), (.mov (.tmp 20)), .none⟩] []) .skip))
def J_internal_strconv_underscoreOK_3 : RCode := (.region (⟨(some 21), (.mov (.tmp 0)), .none⟩ ::
  ⟨(some 22), (.len true (.tmp 21)), .none⟩ ::
  ⟨(some 23), (.bin .geq .none (.tmp 22) (.const (.int .i64 2))), .none⟩ ::
  ⟨(some 24), (.mov (.tmp 23)), .none⟩ ::
  ⟨(some 25), (.mov (.tmp 0)), (some (24, true))⟩ ::
  ⟨(some 26), (.indexS (.tmp 25) (.const (.int .i64 0))), (some (24, true))⟩ ::
  ⟨(some 27), (.bin .eql .none (.tmp 26) (.const (.int .u8 48))), (some (24, true))⟩ ::
  ⟨(some 28), (.pick (.tmp 24) (.tmp 27) (.const (.bool false))), .none⟩ ::
  ⟨(some 29), (.mov (.tmp 28)), .none⟩ ::
  ⟨(some 30), (.mov (.tmp 0)), (some (29, true))⟩ ::
  ⟨(some 31), (.indexS (.tmp 30) (.const (.int .i64 1))), (some (29, true))⟩ ::
  ⟨(some 32), (.pcall 108 [(.tmp 31)]), (some (29, true))⟩ ::
  ⟨(some 33), (.bin .eql .none (.tmp 32) (.const (.int .u8 98))), (some (29, true))⟩ ::
  ⟨(some 34), (.mov (.tmp 33)), (some (29, true))⟩ ::
  ⟨(some 35), (.mov (.tmp 0)), (some (34, false))⟩ ::
  ⟨(some 36), (.indexS (.tmp 35) (.const (.int .i64 1))), (some (34, false))⟩ ::
  ⟨(some 37), (.pcall 108 [(.tmp 36)]), (some (34, false))⟩ ::
  ⟨(some 38), (.bin .eql .none (.tmp 37) (.const (.int .u8 111))), (some (34, false))⟩ ::
  ⟨(some 39), (.pick (.tmp 34) (.const (.bool true)) (.tmp 38)), (some (29, true))⟩ ::
  ⟨(some 40), (.mov (.tmp 39)), (some (29, true))⟩ ::
  ⟨(some 41), (.mov (.tmp 0)), (some (40, false))⟩ ::
  ⟨(some 42), (.indexS (.tmp 41) (.const (.int .i64 1))), (some (40, false))⟩ ::
  ⟨(some 43), (.pcall 108 [(.tmp 42)]), (some (40, false))⟩ ::
  ⟨(some 44), (.bin .eql .none (.tmp 43) (.const (.int .u8 120))), (some (40, false))⟩ ::
  ⟨(some 45), (.pick (.tmp 40) (.const (.bool true)) (.tmp 44)), (some (29, true))⟩ ::
  ⟨(some 46), (.pick (.tmp 29) (.tmp 45) (.const (.bool false))), .none⟩ :: []) [])
def J_internal_strconv_underscoreOK_2 : RCode := (.seq J_internal_strconv_underscoreOK_3 (.cond (.tmp 46) (.seq (.region [⟨(some 4), (.mov (.const (.int .i64 2))), .none⟩] []) (.seq (.region [⟨(some 3), (.mov (.const (.int .i32 48))), .none⟩] []) (.region [⟨(some 47), (.mov (.tmp 0)), .none⟩,
  ⟨(some 48), (.indexS (.tmp 47) (.const (.int .i64 1))), .none⟩,
  ⟨(some 49), (.pcall 108 [(.tmp 48)]), .none⟩,
  ⟨(some 50), (.bin .eql .none (.tmp 49) (.const (.int .u8 120))), .none⟩,
  ⟨(some 5), (.mov (.tmp 50)), .none⟩] []))) .skip))
def J_internal_strconv_underscoreOK_4 : RCode := (.seq (.region (⟨(some 57), (.mov (.tmp 0)), .none⟩ ::
  ⟨(some 58), (.mov (.tmp 4)), .none⟩ ::
  ⟨(some 59), (.indexS (.tmp 57) (.tmp 58)), .none⟩ ::
  ⟨(some 60), (.bin .leq .none (.const (.int .u8 48)) (.tmp 59)), .none⟩ ::
  ⟨(some 61), (.mov (.tmp 60)), .none⟩ ::
  ⟨(some 62), (.mov (.tmp 0)), (some (61, true))⟩ ::
  ⟨(some 63), (.mov (.tmp 4)), (some (61, true))⟩ ::
  ⟨(some 64), (.indexS (.tmp 62) (.tmp 63)), (some (61, true))⟩ ::
  ⟨(some 65), (.bin .leq .none (.tmp 64) (.const (.int .u8 57))), (some (61, true))⟩ ::
  ⟨(some 66), (.pick (.tmp 61) (.tmp 65) (.const (.bool false))), .none⟩ ::
  ⟨(some 67), (.mov (.tmp 66)), .none⟩ ::
  ⟨(some 68), (.mov (.tmp 5)), (some (67, false))⟩ ::
  ⟨(some 69), (.mov (.tmp 68)), (some (67, false))⟩ ::
  ⟨(some 70), (.mov (.tmp 0)), (some (69, true))⟩ ::
  ⟨(some 71), (.mov (.tmp 4)), (some (69, true))⟩ ::
  ⟨(some 72), (.indexS (.tmp 70) (.tmp 71)), (some (69, true))⟩ ::
  ⟨(some 73), (.pcall 108 [(.tmp 72)]), (some (69, true))⟩ ::
  ⟨(some 74), (.bin .leq .none (.const (.int .u8 97)) (.tmp 73)), (some (69, true))⟩ ::
  ⟨(some 75), (.pick (.tmp 69) (.tmp 74) (.const (.bool false))), (some (67, false))⟩ ::
  ⟨(some 76), (.mov (.tmp 75)), (some (67, false))⟩ ::
  ⟨(some 77), (.mov (.tmp 0)), (some (76, true))⟩ ::
  ⟨(some 78), (.mov (.tmp 4)), (some (76, true))⟩ ::
  ⟨(some 79), (.indexS (.tmp 77) (.tmp 78)), (some (76, true))⟩ ::
  ⟨(some 80), (.pcall 108 [(.tmp 79)]), (some (76, true))⟩ ::
  ⟨(some 81), (.bin .leq .none (.tmp 80) (.const (.int .u8 102))), (some (76, true))⟩ ::
  ⟨(some 82), (.pick (.tmp 76) (.tmp 81) (.const (.bool false))), (some (67, false))⟩ ::
  ⟨(some 83), (.pick (.tmp 67) (.const (.bool true)) (.tmp 82)), .none⟩ :: []) []) (.cond (.tmp 83) (.seq (.region [⟨(some 3), (.mov (.const (.int .i32 48))), .none⟩] []) (.exit 1)) .skip))
def L_internal_strconv_underscoreOK_1 : RCode := (.seq (.seq (.region [⟨(some 51), (.mov (.tmp 4)), .none⟩,
  ⟨(some 52), (.mov (.tmp 0)), .none⟩,
  ⟨(some 53), (.len true (.tmp 52)), .none⟩,
  ⟨(some 54), (.bin .lss .none (.tmp 51) (.tmp 53)), .none⟩] []) (.cond (.tmp 54) .skip (.exit 0))) (.seq (.block 1 (.seq J_internal_strconv_underscoreOK_4 (.seq (.seq (.region [⟨(some 84), (.mov (.tmp 0)), .none⟩,
  ⟨(some 85), (.mov (.tmp 4)), .none⟩,
  ⟨(some 86), (.indexS (.tmp 84) (.tmp 85)), .none⟩,
  ⟨(some 87), (.bin .eql .none (.tmp 86) (.const (.int .u8 95))), .none⟩] []) (.cond (.tmp 87) (.seq (.seq (.region [⟨(some 88), (.mov (.tmp 3)), .none⟩,
  ⟨(some 89), (.bin .neq .none (.tmp 88) (.const (.int .i32 48))), .none⟩] []) (.cond (.tmp 89) (.seq (.region [⟨(some 2), (.mov (.const (.bool false))), .none⟩] []) .ret) .skip)) (.seq (.region [⟨(some 3), (.mov (.const (.int .i32 95))), .none⟩] []) (.exit 1))) .skip)) (.seq (.seq (.region [⟨(some 90), (.mov (.tmp 3)), .none⟩,
  ⟨(some 91), (.bin .eql .none (.tmp 90) (.const (.int .i32 95))), .none⟩] []) (.cond (.tmp 91) (.seq (.region [⟨(some 2), (.mov (.const (.bool false))), .none⟩] []) .ret) .skip)) (.region [⟨(some 3), (.mov (.const (.int .i32 33))), .none⟩] []))))) (.region [⟨(some 55), (.mov (.tmp 4)), .none⟩,
  ⟨(some 56), (.bin .add .none (.tmp 55) (.const (.int .i64 1))), .none⟩,
  ⟨(some 4), (.mov (.tmp 56)), .none⟩] [])))
def R_internal_strconv_underscoreOK : RFunc := ⟨1, 94, [(.tmp 2)], (.seq (.region [⟨(some 2), (.mov (.const (.bool false))), .none⟩] []) (.seq (.region [⟨(some 3), (.mov (.const (.int .i32 94))), .none⟩] []) (.seq (.region [⟨(some 4), (.mov (.const (.int .i64 0))), .none⟩] []) (.seq J_internal_strconv_underscoreOK_1 (.seq (.region [⟨(some 5), (.mov (.const (.bool false))), .none⟩] []) (.seq J_internal_strconv_underscoreOK_2 (.seq (.block 0 (.loop L_internal_strconv_underscoreOK_1)) (.seq (.region [⟨(some 92), (.mov (.tmp 3)), .none⟩,
  ⟨(some 93), (.bin .neq .none (.tmp 92) (.const (.int .i32 95))), .none⟩,
  ⟨(some 2), (.mov (.tmp 93)), .none⟩] []) .ret))))))))⟩
def R_strconv_syntaxError : RFunc := ⟨2, 11, [(.tmp 4)], (.seq (.region [⟨(some 4), (.mov (.const .nilptr)), .none⟩] []) (.seq (.region [⟨(some 5), (.mov (.tmp 0)), .none⟩,
  ⟨(some 6), (.mov (.tmp 1)), .none⟩,
  ⟨(some 7), (.ocall 142 [(.tmp 6)]), .none⟩,
  ⟨(some 8), (.load .none (.const (.cptr G_1 0))), .none⟩,
  ⟨(some 9), (.build [(.str []), (.str []), .nilIface] [(0, (1, (.tmp 5))), (1, (1, (.tmp 7))), (2, (1, (.tmp 8)))]), .none⟩,
  ⟨(some 10), (.box 172 (.tmp 9)), .none⟩,
  ⟨(some 4), (.mov (.tmp 10)), .none⟩] []) .ret))⟩
def R_strconv_rangeError : RFunc := ⟨2, 11, [(.tmp 4)], (.seq (.region [⟨(some 4), (.mov (.const .nilptr)), .none⟩] []) (.seq (.region [⟨(some 5), (.mov (.tmp 0)), .none⟩,
  ⟨(some 6), (.mov (.tmp 1)), .none⟩,
  ⟨(some 7), (.ocall 142 [(.tmp 6)]), .none⟩,
  ⟨(some 8), (.load .none (.const (.cptr G_2 0))), .none⟩,
  ⟨(some 9), (.build [(.str []), (.str []), .nilIface] [(0, (1, (.tmp 5))), (1, (1, (.tmp 7))), (2, (1, (.tmp 8)))]), .none⟩,
  ⟨(some 10), (.box 172 (.tmp 9)), .none⟩,
  ⟨(some 4), (.mov (.tmp 10)), .none⟩] []) .ret))⟩
def J_cond_escape_1 : RCode := (.seq (.region [⟨(some 24), (.mov (.tmp 0)), .none⟩,
  ⟨(some 25), (.indexS (.tmp 24) (.const (.int .i64 0))), .none⟩,
  ⟨(some 26), (.bin .eql .none (.tmp 25) (.const (.int .u8 120))), .none⟩] []) (.cond (.tmp 26) (.seq (.region [⟨(some 27), (.mov (.tmp 0)), .none⟩,
  ⟨(some 28), (.sliceS (.tmp 27) (some (.const (.int .i64 1))) .none), .none⟩,
  ⟨(some 0), (.mov (.tmp 28)), .none⟩] []) (.region [⟨(some 29), (.mov (.tmp 0)), .none⟩,
  ⟨(some 30), (.mov (.tmp 0)), .none⟩,
  ⟨(some 31), (.len true (.tmp 30)), .none⟩,
  ⟨(some 32), (.pcall 154 [(.tmp 29), (.const (.str [48, 49, 50, 51, 52, 53, 54, 55, 56, 57, 97, 98, 99, 100, 101, 102, 65, 66, 67, 68, 69, 70])), (.tmp 31)]), .none⟩,
  ⟨(some 6), (.mov (.const (.int .i64 16))), .none⟩,
  ⟨(some 7), (.mov (.tmp 32)), .none⟩] [])) .skip))
def J_cond_escape_2 : RCode := (.seq (.region [⟨(some 36), (.mov (.tmp 6)), .none⟩,
  ⟨(some 37), (.bin .eql .none (.tmp 36) (.const (.int .i64 16))), .none⟩] []) (.cond (.tmp 37) (.seq (.region [⟨(some 38), (.mov (.tmp 8)), .none⟩,
  ⟨(some 39), (.ocall 155 [(.tmp 38), (.const (.str [48]))]), .none⟩,
  ⟨(some 8), (.mov (.tmp 39)), .none⟩] []) (.seq (.region [⟨(some 40), (.mov (.tmp 7)), .none⟩,
  ⟨(some 41), (.bin .gtr .none (.tmp 40) (.const (.int .i64 0))), .none⟩,
  ⟨(some 42), (.mov (.tmp 41)), .none⟩,
  ⟨(some 43), (.mov (.tmp 8)), (some (42, true))⟩,
  ⟨(some 44), (.bin .eql .none (.tmp 43) (.const (.str []))), (some (42, true))⟩,
  ⟨(some 45), (.pick (.tmp 42) (.tmp 44) (.const (.bool false))), .none⟩] []) (.cond (.tmp 45) (.region [⟨(some 8), (.mov (.const (.str [48]))), .none⟩] []) .skip))) .skip))
def R_cond_escape : RFunc := ⟨1, 59, [(.tmp 2), (.tmp 3), (.tmp 4)], (.seq (.region [⟨(some 2), (.mov (.const (.int .u8 0))), .none⟩,
  ⟨(some 3), (.mov (.const (.str []))), .none⟩,
  ⟨(some 4), (.mov (.const (.bool false))), .none⟩] []) (.seq (.seq (.region [⟨(some 11), (.mov (.tmp 0)), .none⟩,
  ⟨(some 12), (.bin .eql .none (.tmp 11) (.const (.str []))), .none⟩] []) (.cond (.tmp 12) (.seq (.region [⟨(some 2), (.mov (.const (.int .u8 0))), .none⟩,
  ⟨(some 3), (.mov (.const (.str []))), .none⟩,
  ⟨(some 4), (.mov (.const (.bool false))), .none⟩] []) .ret) .skip)) (.seq (.seq (.region [⟨(some 13), (.mov (.tmp 0)), .none⟩,
  ⟨(some 14), (.indexS (.tmp 13) (.const (.int .i64 0))), .none⟩,
  ⟨(some 15), (.ocall 82 [(.const (.str [110, 116, 118, 98, 114, 102, 97, 92, 39, 34, 63])), (.tmp 14)]), .none⟩,
  ⟨(some 5), (.mov (.tmp 15)), .none⟩] []) (.seq (.region [⟨(some 16), (.mov (.tmp 5)), .none⟩,
  ⟨(some 17), (.bin .geq .none (.tmp 16) (.const (.int .i64 0))), .none⟩] []) (.cond (.tmp 17) (.seq (.region [⟨(some 18), (.mov (.tmp 5)), .none⟩,
  ⟨(some 19), (.indexS (.const (.str [10, 9, 11, 8, 13, 12, 7, 92, 39, 34, 63])) (.tmp 18)), .none⟩,
  ⟨(some 20), (.mov (.tmp 0)), .none⟩,
  ⟨(some 21), (.sliceS (.tmp 20) (some (.const (.int .i64 1))) .none), .none⟩,
  ⟨(some 2), (.mov (.tmp 19)), .none⟩,
  ⟨(some 3), (.mov (.tmp 21)), .none⟩,
  ⟨(some 4), (.mov (.const (.bool true))), .none⟩] []) .ret) .skip))) (.seq (.region [⟨(some 6), (.mov (.const (.int .i64 8))), .none⟩] []) (.seq (.region [⟨(some 22), (.mov (.tmp 0)), .none⟩,
  ⟨(some 23), (.pcall 154 [(.tmp 22), (.const (.str [48, 49, 50, 51, 52, 53, 54, 55])), (.const (.int .i64 3))]), .none⟩,
  ⟨(some 7), (.mov (.tmp 23)), .none⟩] []) (.seq J_cond_escape_1 (.seq (.region [⟨(some 33), (.mov (.tmp 0)), .none⟩,
  ⟨(some 34), (.mov (.tmp 7)), .none⟩,
  ⟨(some 35), (.sliceS (.tmp 33) .none (some (.tmp 34))), .none⟩,
  ⟨(some 8), (.mov (.tmp 35)), .none⟩] []) (.seq J_cond_escape_2 (.seq (.region [⟨(some 47), (.mov (.tmp 8)), .none⟩,
  ⟨(some 48), (.mov (.tmp 6)), .none⟩,
  ⟨(some 49), (.pcall 44 [(.tmp 47), (.tmp 48), (.const (.int .i64 8))]), .none⟩,
  ⟨(some 46), (.mov (.tmp 49)), .none⟩,
  ⟨(some 50), (.extract 0 (.tmp 46)), .none⟩,
  ⟨(some 51), (.extract 1 (.tmp 46)), .none⟩,
  ⟨(some 9), (.mov (.tmp 50)), .none⟩,
  ⟨(some 10), (.mov (.tmp 51)), .none⟩] []) (.seq (.region [⟨(some 52), (.mov (.tmp 9)), .none⟩,
  ⟨(some 53), (.conv (.int .u8) (.tmp 52)), .none⟩,
  ⟨(some 54), (.mov (.tmp 0)), .none⟩,
  ⟨(some 55), (.mov (.tmp 7)), .none⟩,
  ⟨(some 56), (.sliceS (.tmp 54) (some (.tmp 55)) .none), .none⟩,
  ⟨(some 57), (.mov (.tmp 10)), .none⟩,
  ⟨(some 58), (.bin .eql .iface (.tmp 57) (.const .nilIface)), .none⟩,
  ⟨(some 2), (.mov (.tmp 53)), .none⟩,
  ⟨(some 3), (.mov (.tmp 56)), .none⟩,
  ⟨(some 4), (.mov (.tmp 58)), .none⟩] []) .ret))))))))))⟩
def J_cond_eval_atom_1 : RCode := (.seq (.region [⟨(some 23), (.mov (.tmp 0)), .none⟩,
  ⟨(some 24), (.nilck (.tmp 23)), .none⟩,
  ⟨(some 25), (.faddr 1 (.tmp 24)), .none⟩,
  ⟨(some 26), (.load .none (.tmp 25)), .none⟩,
  ⟨(some 27), (.mov (.tmp 26)), .none⟩,
  ⟨(some 28), (.mov (.tmp 0)), (some (27, false))⟩,
  ⟨(some 29), (.nilck (.tmp 28)), (some (27, false))⟩,
  ⟨(some 30), (.faddr 0 (.tmp 29)), (some (27, false))⟩,
  ⟨(some 31), (.load .none (.tmp 30)), (some (27, false))⟩,
  ⟨(some 32), (.len false (.tmp 31)), (some (27, false))⟩,
  ⟨(some 33), (.bin .eql .none (.tmp 32) (.const (.int .i64 0))), (some (27, false))⟩,
  ⟨(some 34), (.pick (.tmp 27) (.const (.bool true)) (.tmp 33)), .none⟩] []) (.cond (.tmp 34) (.seq (.region [⟨(some 35), (.mov (.tmp 0)), .none⟩,
  ⟨(some 36), (.nilck (.tmp 35)), .none⟩,
  ⟨(some 37), (.faddr 1 (.tmp 36)), .none⟩,
  ⟨.none, (.store 1 (.tmp 37) (.const (.bool true))), .none⟩] []) (.seq (.region [⟨(some 38), (.build [(.int .u64 0), (.bool false)] []), .none⟩,
  ⟨.none, (.store 2 (.tmp 4) (.tmp 38)), .none⟩] []) .ret)) .skip))
def R_cond_eval_atom : RFunc := ⟨2, 102, [(.cell 4 (some 2))], (.seq (.region [⟨(some 4), (.alloc 70 [(.int .u64 0), (.bool false)]), .none⟩] []) (.seq (.seq (.region [⟨(some 12), (.mov (.tmp 0)), .none⟩,
  ⟨(some 13), (.call (.const (.func 61 [] [])) [(.tmp 12), (.const (.str [40]))]), .none⟩] []) (.cond (.tmp 13) (.seq (.region [⟨(some 14), (.mov (.tmp 0)), .none⟩,
  ⟨(some 15), (.mov (.tmp 1)), .none⟩,
  ⟨(some 16), (.call (.const (.func 38 [] [])) [(.tmp 14), (.tmp 15)]), .none⟩,
  ⟨(some 5), (.alloc 70 [(.int .u64 0), (.bool false)]), .none⟩,
  ⟨.none, (.store 2 (.tmp 5) (.tmp 16)), .none⟩] []) (.seq (.region [⟨(some 17), (.mov (.tmp 0)), .none⟩,
  ⟨(some 18), (.mov (.tmp 0)), .none⟩,
  ⟨(some 19), (.call (.const (.func 61 [] [])) [(.tmp 18), (.const (.str [41]))]), .none⟩,
  ⟨(some 20), (.un .not (.tmp 19)), .none⟩,
  ⟨(some 21), (.call (.const (.func 62 [] [])) [(.tmp 17), (.tmp 20)]), .none⟩] []) (.seq (.region [⟨(some 22), (.load (some 2) (.tmp 5)), .none⟩,
  ⟨.none, (.store 2 (.tmp 4) (.tmp 22)), .none⟩] []) .ret))) .skip)) (.seq J_cond_eval_atom_1 (.seq (.region [⟨(some 39), (.mov (.tmp 0)), .none⟩,
  ⟨(some 40), (.nilck (.tmp 39)), .none⟩,
  ⟨(some 41), (.faddr 0 (.tmp 40)), .none⟩,
  ⟨(some 42), (.load .none (.tmp 41)), .none⟩,
  ⟨(some 43), (.iaddr 6 (.tmp 42) (.const (.int .i64 0))), .none⟩,
  ⟨(some 44), (.load (some 6) (.tmp 43)), .none⟩,
  ⟨(some 6), (.alloc 41 [(.int .i64 0), (.str []), (.str []), (.int .i64 0), (.bool false), (.bool false)]), .none⟩,
  ⟨.none, (.store 6 (.tmp 6) (.tmp 44)), .none⟩] []) (.seq (.region [⟨(some 45), (.mov (.tmp 0)), .none⟩,
  ⟨(some 46), (.mov (.tmp 0)), .none⟩,
  ⟨(some 47), (.nilck (.tmp 46)), .none⟩,
  ⟨(some 48), (.faddr 0 (.tmp 47)), .none⟩,
  ⟨(some 49), (.load .none (.tmp 48)), .none⟩,
  ⟨(some 50), (.slice 6 (.tmp 49) (some (.const (.int .i64 1))) .none .none), .none⟩,
  ⟨(some 51), (.nilck (.tmp 45)), .none⟩,
  ⟨(some 52), (.faddr 0 (.tmp 51)), .none⟩,
  ⟨.none, (.store 1 (.tmp 52) (.tmp 50)), .none⟩] []) (.seq (.seq (.region [⟨(some 53), (.faddr 0 (.tmp 6)), .none⟩,
  ⟨(some 54), (.load .none (.tmp 53)), .none⟩] []) (.block 0 (.seq (.region [⟨(some 56), (.bin .eql .none (.tmp 54) (.const (.int .i64 1))), .none⟩,
  ⟨(some 55), (.mov (.tmp 56)), .none⟩] []) (.cond (.tmp 55) (.seq (.region [⟨(some 57), (.build [(.int .u64 0), (.bool false)] []), .none⟩,
  ⟨.none, (.store 2 (.tmp 4) (.tmp 57)), .none⟩] []) .ret) (.seq (.region [⟨(some 59), (.bin .eql .none (.tmp 54) (.const (.int .i64 2))), .none⟩,
  ⟨(some 58), (.mov (.tmp 59)), .none⟩] []) (.cond (.tmp 58) (.seq (.region [⟨(some 61), (.faddr 1 (.tmp 6)), .none⟩,
  ⟨(some 62), (.load .none (.tmp 61)), .none⟩,
  ⟨(some 63), (.pcall 29 [(.tmp 62)]), .none⟩,
  ⟨(some 60), (.mov (.tmp 63)), .none⟩,
  ⟨(some 64), (.extract 0 (.tmp 60)), .none⟩,
  ⟨(some 65), (.extract 1 (.tmp 60)), .none⟩,
  ⟨(some 66), (.extract 2 (.tmp 60)), .none⟩,
  ⟨(some 7), (.mov (.tmp 64)), .none⟩,
  ⟨(some 8), (.mov (.tmp 65)), .none⟩,
  ⟨(some 9), (.mov (.tmp 66)), .none⟩] []) (.seq (.region [⟨(some 67), (.mov (.tmp 0)), .none⟩,
  ⟨(some 68), (.mov (.tmp 9)), .none⟩,
  ⟨(some 69), (.bin .neq .none (.tmp 68) (.const (.int .i64 0))), .none⟩,
  ⟨(some 70), (.mov (.tmp 69)), .none⟩,
  ⟨(some 71), (.mov (.tmp 8)), (some (70, false))⟩,
  ⟨(some 72), (.un .not (.tmp 71)), (some (70, false))⟩,
  ⟨(some 73), (.mov (.tmp 72)), (some (70, false))⟩,
  ⟨(some 74), (.mov (.tmp 7)), (some (73, true))⟩,
  ⟨(some 75), (.conv (.int .i64) (.tmp 74)), (some (73, true))⟩,
  ⟨(some 76), (.bin .lss .none (.tmp 75) (.const (.int .i64 0))), (some (73, true))⟩,
  ⟨(some 77), (.pick (.tmp 73) (.tmp 76) (.const (.bool false))), (some (70, false))⟩,
  ⟨(some 78), (.pick (.tmp 70) (.const (.bool true)) (.tmp 77)), .none⟩,
  ⟨(some 79), (.call (.const (.func 62 [] [])) [(.tmp 67), (.tmp 78)]), .none⟩] []) (.seq (.region [⟨(some 80), (.mov (.tmp 7)), .none⟩,
  ⟨(some 81), (.mov (.tmp 8)), .none⟩,
  ⟨(some 82), (.build [(.int .u64 0), (.bool false)] [(0, (1, (.tmp 80))), (1, (1, (.tmp 81)))]), .none⟩,
  ⟨.none, (.store 2 (.tmp 4) (.tmp 82)), .none⟩] []) .ret))) (.seq (.region [⟨(some 84), (.bin .eql .none (.tmp 54) (.const (.int .i64 3))), .none⟩,
  ⟨(some 83), (.mov (.tmp 84)), .none⟩] []) (.cond (.tmp 83) (.seq (.region [⟨(some 86), (.faddr 1 (.tmp 6)), .none⟩,
  ⟨(some 87), (.load .none (.tmp 86)), .none⟩,
  ⟨(some 88), (.pcall 81 [(.tmp 87)]), .none⟩,
  ⟨(some 85), (.mov (.tmp 88)), .none⟩,
  ⟨(some 89), (.extract 0 (.tmp 85)), .none⟩,
  ⟨(some 90), (.extract 1 (.tmp 85)), .none⟩,
  ⟨(some 10), (.mov (.tmp 89)), .none⟩,
  ⟨(some 11), (.mov (.tmp 90)), .none⟩] []) (.seq (.region [⟨(some 91), (.mov (.tmp 0)), .none⟩,
  ⟨(some 92), (.mov (.tmp 11)), .none⟩,
  ⟨(some 93), (.bin .neq .none (.tmp 92) (.const (.int .i64 0))), .none⟩,
  ⟨(some 94), (.call (.const (.func 62 [] [])) [(.tmp 91), (.tmp 93)]), .none⟩] []) (.seq (.region [⟨(some 95), (.mov (.tmp 10)), .none⟩,
  ⟨(some 96), (.conv (.int .u64) (.tmp 95)), .none⟩,
  ⟨(some 97), (.build [(.int .u64 0), (.bool false)] [(0, (1, (.tmp 96)))]), .none⟩,
  ⟨.none, (.store 2 (.tmp 4) (.tmp 97)), .none⟩] []) .ret))) .skip)))))))) (.seq (.region [⟨(some 98), (.mov (.tmp 0)), .none⟩,
  ⟨(some 99), (.nilck (.tmp 98)), .none⟩,
  ⟨(some 100), (.faddr 1 (.tmp 99)), .none⟩,
  ⟨.none, (.store 1 (.tmp 100) (.const (.bool true))), .none⟩] []) (.seq (.region [⟨(some 101), (.build [(.int .u64 0), (.bool false)] []), .none⟩,
  ⟨.none, (.store 2 (.tmp 4) (.tmp 101)), .none⟩] []) .ret))))))))⟩
def J_cond_eval_divided_1 : RCode := (.region [⟨(some 16), (.faddr 1 (.tmp 7)), .none⟩,
  ⟨(some 17), (.load .none (.tmp 16)), .none⟩,
  ⟨(some 18), (.mov (.tmp 17)), .none⟩,
  ⟨(some 19), (.faddr 1 (.tmp 8)), (some (18, false))⟩,
  ⟨(some 20), (.load .none (.tmp 19)), (some (18, false))⟩,
  ⟨(some 21), (.pick (.tmp 18) (.const (.bool true)) (.tmp 20)), .none⟩,
  ⟨(some 11), (.mov (.tmp 21)), .none⟩] [])
def R_cond_eval_divided : RFunc := ⟨5, 70, [(.cell 10 (some 2))], (.seq (.region [⟨(some 7), (.box 70 (.tmp 2)), .none⟩,
  ⟨(some 8), (.box 70 (.tmp 3)), .none⟩,
  ⟨(some 10), (.alloc 70 [(.int .u64 0), (.bool false)]), .none⟩] []) (.seq J_cond_eval_divided_1 (.seq (.seq (.region [⟨(some 22), (.faddr 0 (.tmp 8)), .none⟩,
  ⟨(some 23), (.load .none (.tmp 22)), .none⟩,
  ⟨(some 24), (.bin .eql .none (.tmp 23) (.const (.int .u64 0))), .none⟩] []) (.cond (.tmp 24) (.seq (.region [⟨(some 25), (.mov (.tmp 0)), .none⟩,
  ⟨(some 26), (.mov (.tmp 4)), .none⟩,
  ⟨(some 27), (.call (.const (.func 62 [] [])) [(.tmp 25), (.tmp 26)]), .none⟩] []) (.seq (.region [⟨(some 28), (.mov (.tmp 11)), .none⟩,
  ⟨(some 29), (.build [(.int .u64 0), (.bool false)] [(1, (1, (.tmp 28)))]), .none⟩,
  ⟨.none, (.store 2 (.tmp 10) (.tmp 29)), .none⟩] []) .ret)) .skip)) (.seq (.region [⟨(some 12), (.mov (.const (.int .u64 0))), .none⟩,
  ⟨(some 13), (.mov (.const (.int .u64 0))), .none⟩] []) (.seq (.seq (.region [⟨(some 30), (.faddr 0 (.tmp 7)), .none⟩,
  ⟨(some 31), (.load .none (.tmp 30)), .none⟩,
  ⟨(some 32), (.conv (.int .i64) (.tmp 31)), .none⟩,
  ⟨(some 33), (.faddr 0 (.tmp 8)), .none⟩,
  ⟨(some 34), (.load .none (.tmp 33)), .none⟩,
  ⟨(some 35), (.conv (.int .i64) (.tmp 34)), .none⟩,
  ⟨(some 14), (.mov (.tmp 32)), .none⟩,
  ⟨(some 15), (.mov (.tmp 35)), .none⟩] []) (.block 0 (.seq (.region [⟨(some 45), (.mov (.tmp 11)), .none⟩,
  ⟨(some 44), (.mov (.tmp 45)), .none⟩] []) (.cond (.tmp 44) (.region [⟨(some 46), (.faddr 0 (.tmp 7)), .none⟩,
  ⟨(some 47), (.load .none (.tmp 46)), .none⟩,
  ⟨(some 48), (.faddr 0 (.tmp 8)), .none⟩,
  ⟨(some 49), (.load .none (.tmp 48)), .none⟩,
  ⟨(some 50), (.bin .quo .none (.tmp 47) (.tmp 49)), .none⟩,
  ⟨(some 51), (.faddr 0 (.tmp 7)), .none⟩,
  ⟨(some 52), (.load .none (.tmp 51)), .none⟩,
  ⟨(some 53), (.faddr 0 (.tmp 8)), .none⟩,
  ⟨(some 54), (.load .none (.tmp 53)), .none⟩,
  ⟨(some 55), (.bin .rem .none (.tmp 52) (.tmp 54)), .none⟩,
  ⟨(some 12), (.mov (.tmp 50)), .none⟩,
  ⟨(some 13), (.mov (.tmp 55)), .none⟩] []) (.seq (.region [⟨(some 57), (.mov (.tmp 15)), .none⟩,
  ⟨(some 58), (.bin .eql .none (.tmp 57) (.const (.int .i64 (-1)))), .none⟩,
  ⟨(some 56), (.mov (.tmp 58)), .none⟩] []) (.cond (.tmp 56) (.region [⟨(some 59), (.faddr 0 (.tmp 7)), .none⟩,
  ⟨(some 60), (.load .none (.tmp 59)), .none⟩,
  ⟨(some 61), (.un .neg (.tmp 60)), .none⟩,
  ⟨(some 12), (.mov (.tmp 61)), .none⟩] []) (.region [⟨(some 36), (.mov (.tmp 14)), .none⟩,
  ⟨(some 37), (.mov (.tmp 15)), .none⟩,
  ⟨(some 38), (.bin .quo .none (.tmp 36) (.tmp 37)), .none⟩,
  ⟨(some 39), (.conv (.int .u64) (.tmp 38)), .none⟩,
  ⟨(some 40), (.mov (.tmp 14)), .none⟩,
  ⟨(some 41), (.mov (.tmp 15)), .none⟩,
  ⟨(some 42), (.bin .rem .none (.tmp 40) (.tmp 41)), .none⟩,
  ⟨(some 43), (.conv (.int .u64) (.tmp 42)), .none⟩,
  ⟨(some 12), (.mov (.tmp 39)), .none⟩,
  ⟨(some 13), (.mov (.tmp 43)), .none⟩] []))))))) (.seq (.seq (.region [⟨(some 62), (.mov (.tmp 1)), .none⟩,
  ⟨(some 63), (.bin .eql .none (.tmp 62) (.const (.str [37]))), .none⟩] []) (.cond (.tmp 63) (.seq (.region [⟨(some 64), (.mov (.tmp 13)), .none⟩,
  ⟨(some 65), (.mov (.tmp 11)), .none⟩,
  ⟨(some 66), (.build [(.int .u64 0), (.bool false)] [(0, (1, (.tmp 64))), (1, (1, (.tmp 65)))]), .none⟩,
  ⟨.none, (.store 2 (.tmp 10) (.tmp 66)), .none⟩] []) .ret) .skip)) (.seq (.region [⟨(some 67), (.mov (.tmp 12)), .none⟩,
  ⟨(some 68), (.mov (.tmp 11)), .none⟩,
  ⟨(some 69), (.build [(.int .u64 0), (.bool false)] [(0, (1, (.tmp 67))), (1, (1, (.tmp 68)))]), .none⟩,
  ⟨.none, (.store 2 (.tmp 10) (.tmp 69)), .none⟩] []) .ret)))))))⟩
def R_cond_eval_shifted : RFunc := ⟨5, 49, [(.cell 10 (some 2))], (.seq (.region [⟨(some 7), (.box 70 (.tmp 2)), .none⟩,
  ⟨(some 8), (.box 70 (.tmp 3)), .none⟩,
  ⟨(some 10), (.alloc 70 [(.int .u64 0), (.bool false)]), .none⟩] []) (.seq (.block 0 (.seq (.region [⟨(some 12), (.faddr 0 (.tmp 8)), .none⟩,
  ⟨(some 13), (.load .none (.tmp 12)), .none⟩,
  ⟨(some 14), (.bin .gtr .none (.tmp 13) (.const (.int .u64 63))), .none⟩,
  ⟨(some 11), (.mov (.tmp 14)), .none⟩] []) (.cond (.tmp 11) (.seq (.region [⟨(some 15), (.mov (.tmp 0)), .none⟩,
  ⟨(some 16), (.mov (.tmp 4)), .none⟩,
  ⟨(some 17), (.call (.const (.func 62 [] [])) [(.tmp 15), (.tmp 16)]), .none⟩] []) (.seq (.region [⟨(some 18), (.faddr 1 (.tmp 7)), .none⟩,
  ⟨(some 19), (.load .none (.tmp 18)), .none⟩,
  ⟨(some 20), (.build [(.int .u64 0), (.bool false)] [(1, (1, (.tmp 19)))]), .none⟩,
  ⟨.none, (.store 2 (.tmp 10) (.tmp 20)), .none⟩] []) .ret)) (.seq (.region [⟨(some 22), (.mov (.tmp 1)), .none⟩,
  ⟨(some 23), (.bin .eql .none (.tmp 22) (.const (.str [60, 60]))), .none⟩,
  ⟨(some 21), (.mov (.tmp 23)), .none⟩] []) (.cond (.tmp 21) (.seq (.region [⟨(some 24), (.faddr 0 (.tmp 7)), .none⟩,
  ⟨(some 25), (.load .none (.tmp 24)), .none⟩,
  ⟨(some 26), (.faddr 0 (.tmp 8)), .none⟩,
  ⟨(some 27), (.load .none (.tmp 26)), .none⟩,
  ⟨(some 28), (.bin .shl .none (.tmp 25) (.tmp 27)), .none⟩,
  ⟨(some 29), (.faddr 1 (.tmp 7)), .none⟩,
  ⟨(some 30), (.load .none (.tmp 29)), .none⟩,
  ⟨(some 31), (.build [(.int .u64 0), (.bool false)] [(0, (1, (.tmp 28))), (1, (1, (.tmp 30)))]), .none⟩,
  ⟨.none, (.store 2 (.tmp 10) (.tmp 31)), .none⟩] []) .ret) (.seq (.region [⟨(some 33), (.faddr 1 (.tmp 7)), .none⟩,
  ⟨(some 34), (.load .none (.tmp 33)), .none⟩,
  ⟨(some 32), (.mov (.tmp 34)), .none⟩] []) (.cond (.tmp 32) (.seq (.region [⟨(some 35), (.faddr 0 (.tmp 7)), .none⟩,
  ⟨(some 36), (.load .none (.tmp 35)), .none⟩,
  ⟨(some 37), (.faddr 0 (.tmp 8)), .none⟩,
  ⟨(some 38), (.load .none (.tmp 37)), .none⟩,
  ⟨(some 39), (.bin .shr .none (.tmp 36) (.tmp 38)), .none⟩,
  ⟨(some 40), (.build [(.int .u64 0), (.bool false)] [(0, (1, (.tmp 39))), (1, (1, (.const (.bool true))))]), .none⟩,
  ⟨.none, (.store 2 (.tmp 10) (.tmp 40)), .none⟩] []) .ret) .skip))))))) (.seq (.region [⟨(some 41), (.faddr 0 (.tmp 7)), .none⟩,
  ⟨(some 42), (.load .none (.tmp 41)), .none⟩,
  ⟨(some 43), (.conv (.int .i64) (.tmp 42)), .none⟩,
  ⟨(some 44), (.faddr 0 (.tmp 8)), .none⟩,
  ⟨(some 45), (.load .none (.tmp 44)), .none⟩,
  ⟨(some 46), (.bin .shr .none (.tmp 43) (.tmp 45)), .none⟩,
  ⟨(some 47), (.conv (.int .u64) (.tmp 46)), .none⟩,
  ⟨(some 48), (.build [(.int .u64 0), (.bool false)] [(0, (1, (.tmp 47)))]), .none⟩,
  ⟨.none, (.store 2 (.tmp 10) (.tmp 48)), .none⟩] []) .ret)))⟩
def J_cond_compared_1 : RCode := (.seq (.region [⟨(some 13), (.faddr 1 (.tmp 4)), .none⟩,
  ⟨(some 14), (.load .none (.tmp 13)), .none⟩,
  ⟨(some 15), (.un .not (.tmp 14)), .none⟩,
  ⟨(some 16), (.mov (.tmp 15)), .none⟩,
  ⟨(some 17), (.faddr 1 (.tmp 5)), (some (16, true))⟩,
  ⟨(some 18), (.load .none (.tmp 17)), (some (16, true))⟩,
  ⟨(some 19), (.un .not (.tmp 18)), (some (16, true))⟩,
  ⟨(some 20), (.pick (.tmp 16) (.tmp 19) (.const (.bool false))), .none⟩] []) (.cond (.tmp 20) (.region [⟨(some 21), (.mov (.tmp 7)), .none⟩,
  ⟨(some 22), (.bin .xor .none (.tmp 21) (.const (.int .u64 9223372036854775808))), .none⟩,
  ⟨(some 23), (.mov (.tmp 8)), .none⟩,
  ⟨(some 24), (.bin .xor .none (.tmp 23) (.const (.int .u64 9223372036854775808))), .none⟩,
  ⟨(some 7), (.mov (.tmp 22)), .none⟩,
  ⟨(some 8), (.mov (.tmp 24)), .none⟩] []) .skip))
def R_cond_compared : RFunc := ⟨3, 77, [(.cell 6 (some 2))], (.seq (.region [⟨(some 4), (.box 70 (.tmp 1)), .none⟩,
  ⟨(some 5), (.box 70 (.tmp 2)), .none⟩,
  ⟨(some 6), (.alloc 70 [(.int .u64 0), (.bool false)]), .none⟩] []) (.seq (.region [⟨(some 9), (.faddr 0 (.tmp 4)), .none⟩,
  ⟨(some 10), (.load .none (.tmp 9)), .none⟩,
  ⟨(some 11), (.faddr 0 (.tmp 5)), .none⟩,
  ⟨(some 12), (.load .none (.tmp 11)), .none⟩,
  ⟨(some 7), (.mov (.tmp 10)), .none⟩,
  ⟨(some 8), (.mov (.tmp 12)), .none⟩] []) (.seq J_cond_compared_1 (.seq (.region (⟨(some 25), (.mov (.tmp 0)), .none⟩ ::
  ⟨(some 26), (.bin .eql .none (.tmp 25) (.const (.str [61, 61]))), .none⟩ ::
  ⟨(some 27), (.mov (.tmp 26)), .none⟩ ::
  ⟨(some 28), (.mov (.tmp 7)), (some (27, true))⟩ ::
  ⟨(some 29), (.mov (.tmp 8)), (some (27, true))⟩ ::
  ⟨(some 30), (.bin .eql .none (.tmp 28) (.tmp 29)), (some (27, true))⟩ ::
  ⟨(some 31), (.pick (.tmp 27) (.tmp 30) (.const (.bool false))), .none⟩ ::
  ⟨(some 32), (.mov (.tmp 31)), .none⟩ ::
  ⟨(some 33), (.mov (.tmp 0)), (some (32, false))⟩ ::
  ⟨(some 34), (.bin .eql .none (.tmp 33) (.const (.str [33, 61]))), (some (32, false))⟩ ::
  ⟨(some 35), (.mov (.tmp 34)), (some (32, false))⟩ ::
  ⟨(some 36), (.mov (.tmp 7)), (some (35, true))⟩ ::
  ⟨(some 37), (.mov (.tmp 8)), (some (35, true))⟩ ::
  ⟨(some 38), (.bin .neq .none (.tmp 36) (.tmp 37)), (some (35, true))⟩ ::
  ⟨(some 39), (.pick (.tmp 35) (.tmp 38) (.const (.bool false))), (some (32, false))⟩ ::
  ⟨(some 40), (.pick (.tmp 32) (.const (.bool true)) (.tmp 39)), .none⟩ ::
  ⟨(some 41), (.mov (.tmp 40)), .none⟩ ::
  ⟨(some 42), (.mov (.tmp 0)), (some (41, false))⟩ ::
  ⟨(some 43), (.indexS (.tmp 42) (.const (.int .i64 0))), (some (41, false))⟩ ::
  ⟨(some 44), (.bin .eql .none (.tmp 43) (.const (.int .u8 60))), (some (41, false))⟩ ::
  ⟨(some 45), (.mov (.tmp 44)), (some (41, false))⟩ ::
  ⟨(some 46), (.mov (.tmp 7)), (some (45, true))⟩ ::
  ⟨(some 47), (.mov (.tmp 8)), (some (45, true))⟩ ::
  ⟨(some 48), (.bin .lss .none (.tmp 46) (.tmp 47)), (some (45, true))⟩ ::
  ⟨(some 49), (.pick (.tmp 45) (.tmp 48) (.const (.bool false))), (some (41, false))⟩ ::
  ⟨(some 50), (.pick (.tmp 41) (.const (.bool true)) (.tmp 49)), .none⟩ ::
  ⟨(some 51), (.mov (.tmp 50)), .none⟩ ::
  ⟨(some 52), (.mov (.tmp 0)), (some (51, false))⟩ ::
  ⟨(some 53), (.indexS (.tmp 52) (.const (.int .i64 0))), (some (51, false))⟩ ::
  ⟨(some 54), (.bin .eql .none (.tmp 53) (.const (.int .u8 62))), (some (51, false))⟩ ::
  ⟨(some 55), (.mov (.tmp 54)), (some (51, false))⟩ ::
  ⟨(some 56), (.mov (.tmp 7)), (some (55, true))⟩ ::
  ⟨(some 57), (.mov (.tmp 8)), (some (55, true))⟩ ::
  ⟨(some 58), (.bin .gtr .none (.tmp 56) (.tmp 57)), (some (55, true))⟩ ::
  ⟨(some 59), (.pick (.tmp 55) (.tmp 58) (.const (.bool false))), (some (51, false))⟩ ::
  ⟨(some 60), (.pick (.tmp 51) (.const (.bool true)) (.tmp 59)), .none⟩ ::
  ⟨(some 61), (.mov (.tmp 60)), .none⟩ ::
  ⟨(some 62), (.mov (.tmp 0)), (some (61, false))⟩ ::
  ⟨(some 63), (.len true (.tmp 62)), (some (61, false))⟩ ::
  ⟨(some 64), (.bin .eql .none (.tmp 63) (.const (.int .i64 2))), (some (61, false))⟩ ::
  ⟨(some 65), (.mov (.tmp 64)), (some (61, false))⟩ ::
  ⟨(some 66), (.mov (.tmp 0)), (some (65, true))⟩ ::
  ⟨(some 67), (.indexS (.tmp 66) (.const (.int .i64 0))), (some (65, true))⟩ ::
  ⟨(some 68), (.bin .neq .none (.tmp 67) (.const (.int .u8 33))), (some (65, true))⟩ ::
  ⟨(some 69), (.pick (.tmp 65) (.tmp 68) (.const (.bool false))), (some (61, false))⟩ ::
  ⟨(some 70), (.mov (.tmp 69)), (some (61, false))⟩ ::
  ⟨(some 71), (.mov (.tmp 7)), (some (70, true))⟩ ::
  ⟨(some 72), (.mov (.tmp 8)), (some (70, true))⟩ ::
  ⟨(some 73), (.bin .eql .none (.tmp 71) (.tmp 72)), (some (70, true))⟩ ::
  ⟨(some 74), (.pick (.tmp 70) (.tmp 73) (.const (.bool false))), (some (61, false))⟩ ::
  ⟨(some 75), (.pick (.tmp 61) (.const (.bool true)) (.tmp 74)), .none⟩ ::
  ⟨(some 76), (.pcall 89 [(.tmp 75)]), .none⟩ ::
  ⟨.none, (.store 2 (.tmp 6) (.tmp 76)), .none⟩ :: []) []) .ret))))⟩
def R_token_numeric_1 : RFunc := ⟨2, 38, [(.tmp 3)], (.seq (.region [⟨(some 3), (.mov (.const (.bool false))), .none⟩] []) (.seq (.region (⟨(some 4), (.load .none (.tmp 1)), .none⟩ ::
  ⟨(some 5), (.mov (.tmp 0)), .none⟩ ::
  ⟨(some 6), (.indexS (.tmp 4) (.tmp 5)), .none⟩ ::
  ⟨(some 7), (.pcall 100 [(.tmp 6)]), .none⟩ ::
  ⟨(some 8), (.mov (.tmp 7)), .none⟩ ::
  ⟨(some 9), (.load .none (.tmp 1)), (some (8, false))⟩ ::
  ⟨(some 10), (.mov (.tmp 0)), (some (8, false))⟩ ::
  ⟨(some 11), (.indexS (.tmp 9) (.tmp 10)), (some (8, false))⟩ ::
  ⟨(some 12), (.bin .eql .none (.tmp 11) (.const (.int .u8 46))), (some (8, false))⟩ ::
  ⟨(some 13), (.pick (.tmp 8) (.const (.bool true)) (.tmp 12)), .none⟩ ::
  ⟨(some 14), (.mov (.tmp 13)), .none⟩ ::
  ⟨(some 15), (.mov (.tmp 0)), (some (14, false))⟩ ::
  ⟨(some 16), (.bin .gtr .none (.tmp 15) (.const (.int .i64 0))), (some (14, false))⟩ ::
  ⟨(some 17), (.mov (.tmp 16)), (some (14, false))⟩ ::
  ⟨(some 18), (.load .none (.tmp 1)), (some (17, true))⟩ ::
  ⟨(some 19), (.mov (.tmp 0)), (some (17, true))⟩ ::
  ⟨(some 20), (.indexS (.tmp 18) (.tmp 19)), (some (17, true))⟩ ::
  ⟨(some 21), (.bin .eql .none (.tmp 20) (.const (.int .u8 43))), (some (17, true))⟩ ::
  ⟨(some 22), (.mov (.tmp 21)), (some (17, true))⟩ ::
  ⟨(some 23), (.load .none (.tmp 1)), (some (22, false))⟩ ::
  ⟨(some 24), (.mov (.tmp 0)), (some (22, false))⟩ ::
  ⟨(some 25), (.indexS (.tmp 23) (.tmp 24)), (some (22, false))⟩ ::
  ⟨(some 26), (.bin .eql .none (.tmp 25) (.const (.int .u8 45))), (some (22, false))⟩ ::
  ⟨(some 27), (.pick (.tmp 22) (.const (.bool true)) (.tmp 26)), (some (17, true))⟩ ::
  ⟨(some 28), (.pick (.tmp 17) (.tmp 27) (.const (.bool false))), (some (14, false))⟩ ::
  ⟨(some 29), (.mov (.tmp 28)), (some (14, false))⟩ ::
  ⟨(some 30), (.load .none (.tmp 1)), (some (29, true))⟩ ::
  ⟨(some 31), (.mov (.tmp 0)), (some (29, true))⟩ ::
  ⟨(some 32), (.bin .sub .none (.tmp 31) (.const (.int .i64 1))), (some (29, true))⟩ ::
  ⟨(some 33), (.indexS (.tmp 30) (.tmp 32)), (some (29, true))⟩ ::
  ⟨(some 34), (.ocall 82 [(.const (.str [101, 69, 112, 80])), (.tmp 33)]), (some (29, true))⟩ ::
  ⟨(some 35), (.bin .geq .none (.tmp 34) (.const (.int .i64 0))), (some (29, true))⟩ ::
  ⟨(some 36), (.pick (.tmp 29) (.tmp 35) (.const (.bool false))), (some (14, false))⟩ ::
  ⟨(some 37), (.pick (.tmp 14) (.const (.bool true)) (.tmp 36)), .none⟩ ::
  ⟨(some 3), (.mov (.tmp 37)), .none⟩ :: []) []) .ret))⟩
def L_cond_digitsOf_1 : RCode := (.seq (.seq (.region [⟨(some 8), (.mov (.tmp 7)), .none⟩,
  ⟨(some 9), (.mov (.tmp 0)), .none⟩,
  ⟨(some 10), (.len true (.tmp 9)), .none⟩,
  ⟨(some 11), (.bin .lss .none (.tmp 8) (.tmp 10)), .none⟩,
  ⟨(some 12), (.mov (.tmp 11)), .none⟩,
  ⟨(some 13), (.mov (.tmp 7)), (some (12, true))⟩,
  ⟨(some 14), (.mov (.tmp 2)), (some (12, true))⟩,
  ⟨(some 15), (.bin .lss .none (.tmp 13) (.tmp 14)), (some (12, true))⟩,
  ⟨(some 16), (.pick (.tmp 12) (.tmp 15) (.const (.bool false))), .none⟩,
  ⟨(some 17), (.mov (.tmp 16)), .none⟩,
  ⟨(some 18), (.mov (.tmp 1)), (some (17, true))⟩,
  ⟨(some 19), (.mov (.tmp 0)), (some (17, true))⟩,
  ⟨(some 20), (.mov (.tmp 7)), (some (17, true))⟩,
  ⟨(some 21), (.indexS (.tmp 19) (.tmp 20)), (some (17, true))⟩,
  ⟨(some 22), (.ocall 82 [(.tmp 18), (.tmp 21)]), (some (17, true))⟩,
  ⟨(some 23), (.bin .geq .none (.tmp 22) (.const (.int .i64 0))), (some (17, true))⟩,
  ⟨(some 24), (.pick (.tmp 17) (.tmp 23) (.const (.bool false))), .none⟩] []) (.cond (.tmp 24) .skip (.exit 0))) (.block 1 (.region [⟨(some 25), (.mov (.tmp 7)), .none⟩,
  ⟨(some 26), (.bin .add .none (.tmp 25) (.const (.int .i64 1))), .none⟩,
  ⟨(some 7), (.mov (.tmp 26)), .none⟩] [])))
def R_cond_digitsOf : RFunc := ⟨3, 28, [(.tmp 6)], (.seq (.region [⟨(some 6), (.mov (.const (.int .i64 0))), .none⟩] []) (.seq (.region [⟨(some 7), (.mov (.const (.int .i64 0))), .none⟩] []) (.seq (.block 0 (.loop L_cond_digitsOf_1)) (.seq (.region [⟨(some 27), (.mov (.tmp 7)), .none⟩,
  ⟨(some 6), (.mov (.tmp 27)), .none⟩] []) .ret))))⟩
end Go.Proofs.YtmngkcpobmhnoaaGreatDoor.Sim
