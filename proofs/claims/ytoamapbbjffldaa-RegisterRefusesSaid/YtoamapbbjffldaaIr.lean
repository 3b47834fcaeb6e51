import Derived.Test.YtoamapbbjffldaaChecked
import Derived.Test.YtoamapbbjffldaaZzU
namespace Go.Proofs
open Go.TL
abbrev F_law38_RegisterChain : FuncId := 3
abbrev F_law38_RegisterLine : FuncId := 4
abbrev F_law38_RegisterAnswers : FuncId := 5
abbrev F_law38_RegisterForce : FuncId := 6
abbrev F_law38_RegisterRefuses : FuncId := 7
abbrev F_law38_awake : FuncId := 8
abbrev F_made_Register : FuncId := 9
abbrev F_draw_New : FuncId := 10
abbrev F_register_Check : FuncId := 11
abbrev F_ref38_Link : FuncId := 12
abbrev F_register_InForce : FuncId := 13
abbrev F_register_History : FuncId := 14
abbrev F_draw_Mod : FuncId := 15
abbrev F_register_Sum : FuncId := 16
abbrev F_ref38_Sum : FuncId := 17
abbrev F_register_Link : FuncId := 18
abbrev F_ref38_Check : FuncId := 19
abbrev F_ref28_Ints : FuncId := 20
abbrev F_ref38_InForce : FuncId := 21
abbrev F_register_Add : FuncId := 22
abbrev F_ref38_Add : FuncId := 23
abbrev F_ref38_Same : FuncId := 24
abbrev F_ref38_History : FuncId := 25
abbrev F_register_Find : FuncId := 26
abbrev F_ref38_Find : FuncId := 27
abbrev F_draw_Codes_Next : FuncId := 28
abbrev F_draw_Codes_Range : FuncId := 29
abbrev F_register_last : FuncId := 30
abbrev F_register_fits : FuncId := 31
abbrev F_register_standing : FuncId := 32
abbrev F_register_releases : FuncId := 33
abbrev F_register_put : FuncId := 34
abbrev F_ref38_about : FuncId := 35
abbrev F_ref38_inForce : FuncId := 36
abbrev F_slices_Clone_Entry : FuncId := 37
abbrev F_slices_ContainsFunc_Entry : FuncId := 38
abbrev F_register_fits_1 : FuncId := 39
abbrev F_slices_Contains_int : FuncId := 40
abbrev F_slices_DeleteFunc_int : FuncId := 41
abbrev F_register_standing_1 : FuncId := 42
abbrev F_ref38_has : FuncId := 43
abbrev F_slices_IndexFunc_Entry : FuncId := 44
abbrev F_slices_Index_int : FuncId := 45
abbrev F_slices_IndexFunc_int : FuncId := 46
abbrev F_draw_Codes_Secret : FuncId := 62
/-- dataenclave/dataenclavelaw38.RegisterChain -/
def ir_law38_RegisterChain : RC :=
  (.seq
   (.reg 0 none [0, 1, 2] [
     ⟨(some 6), none, (.mv (.k (.v (.bool false))))⟩])
   (.seq
    (.seq
     (.reg 1 none [0, 1, 2, 14] [
       ⟨(some 12), none, (.mv (.t 2))⟩,
       ⟨(some 13), none, (.lenS (.t 12))⟩,
       ⟨(some 14), none, (.bin .gtr false (.t 13) (.k (.v (.int .i64 200))))⟩])
     (.cond (.t 14)
      (.seq
       (.reg 2 none [6] [
         ⟨(some 15), none, (.call (.k (.clo F_law38_awake [])) [])⟩,
         ⟨(some 6), none, (.mv (.t 15))⟩])
       .ret)
      .skip))
    (.seq
     (.reg 3 none [1, 2, 7] [
       ⟨(some 16), none, (.mv (.t 0))⟩,
       ⟨(some 17), none, (.call (.k (.clo F_draw_New [])) [(.t 16)])⟩,
       ⟨(some 18), none, (.call (.k (.clo F_made_Register [])) [(.t 17), (.k (.v (.int .i64 8)))])⟩,
       ⟨(some 7), none, (.mv (.t 18))⟩])
     (.seq
      (.seq
       (.reg 4 none [1, 2, 7, 20, 21] [
         ⟨(some 19), none, (.mv (.t 7))⟩,
         ⟨(some 20), none, (.lenL (.t 19))⟩,
         ⟨(some 21), none, (.mv (.k (.v (.int .i64 0))))⟩])
       (.block 0
        (.loop
         (.seq
          (.reg 5 none [1, 2, 7, 20, 21, 22] [
            ⟨(some 22), none, (.bin .lss false (.t 21) (.t 20))⟩])
          (.seq
           (.cond (.t 22)
            .skip
            (.exit 0))
           (.seq
            (.block 1
             (.seq
              (.reg 6 none [1, 2, 7, 8, 20, 21] [
                ⟨(some 23), none, (.mv (.t 21))⟩,
                ⟨(some 8), none, (.mv (.t 23))⟩])
              (.seq
               (.reg 7 none [1, 2, 7, 20, 21, 29] [
                 ⟨(some 24), none, (.mv (.t 7))⟩,
                 ⟨(some 25), none, (.mv (.t 8))⟩,
                 ⟨(some 26), none, (.bin .add false (.t 25) (.k (.v (.int .i64 1))))⟩,
                 ⟨(some 27), none, (.slL 7 (.t 24) none (some (.t 26)))⟩,
                 ⟨(some 28), none, (.call (.k (.clo F_register_Check [])) [(.t 27)])⟩,
                 ⟨(some 29), none, (.bin .neq false (.t 28) (.k (.v (.int .i64 0))))⟩])
               (.cond (.t 29)
                (.seq
                 (.reg 8 none [6] [
                   ⟨(some 6), none, (.mv (.k (.v (.bool false))))⟩])
                 .ret)
                .skip))))
            (.reg 9 none [1, 2, 7, 20, 21] [
              ⟨(some 30), none, (.bin .add false (.t 21) (.k (.v (.int .i64 1))))⟩,
              ⟨(some 21), none, (.mv (.t 30))⟩])))))))
      (.seq
       (.seq
        (.reg 10 none [1, 2, 7, 33] [
          ⟨(some 31), none, (.mv (.t 7))⟩,
          ⟨(some 32), none, (.lenL (.t 31))⟩,
          ⟨(some 33), none, (.bin .eql false (.t 32) (.k (.v (.int .i64 0))))⟩])
        (.cond (.t 33)
         (.seq
          (.reg 11 none [6] [
            ⟨(some 34), none, (.call (.k (.clo F_law38_awake [])) [])⟩,
            ⟨(some 6), none, (.mv (.t 34))⟩])
          .ret)
         .skip))
       (.seq
        (.reg 12 none [2, 7, 9] [
          ⟨(some 35), none, (.mv (.t 1))⟩,
          ⟨(some 36), none, (.cvI .i64 (.t 35))⟩,
          ⟨(some 37), none, (.mv (.t 7))⟩,
          ⟨(some 38), none, (.lenL (.t 37))⟩,
          ⟨(some 39), none, (.bin .rem false (.t 36) (.t 38))⟩,
          ⟨(some 9), none, (.mv (.t 39))⟩])
        (.seq
         (.reg 13 none [2, 9, 10] [
           ⟨(some 40), none, (.bsl 7 0 [])⟩,
           ⟨(some 41), none, (.mv (.t 7))⟩,
           ⟨(some 42), none, (.app 7 64 false (.t 40) (.t 41))⟩,
           ⟨(some 10), none, (.mv (.t 42))⟩])
         (.seq
          (.reg 14 none [2, 9, 10] [
            ⟨(some 43), none, (.mv (.t 10))⟩,
            ⟨(some 44), none, (.mv (.t 9))⟩,
            ⟨(some 45), none, (.ixL 7 (.t 43) (.t 44))⟩,
            ⟨(some 46), none, (.fa 5 (.t 45))⟩,
            ⟨(some 47), none, (.ld none (.t 46))⟩,
            ⟨(some 48), none, (.mv (.t 2))⟩,
            ⟨(some 49), none, (.bin .add false (.t 47) (.t 48))⟩,
            ⟨(some 50), none, (.ixL 7 (.t 43) (.t 44))⟩,
            ⟨(some 51), none, (.fa 5 (.t 50))⟩,
            ⟨none, none, (.st 1 (.t 51) (.t 49))⟩])
          (.seq
           (.reg 15 (some [0, 1, 3, 7, 7, 31, 63, 127, 7, 7, 775, 1799, 3847, 8191, 16383, 32767]) [2, 10, 11] [
             ⟨(some 52), none, (.mv (.t 2))⟩,
             ⟨(some 53), none, (.bin .eql false (.t 52) (.k (.v (.string ⟨#[]⟩))))⟩,
             ⟨(some 54), none, (.mv (.t 53))⟩,
             ⟨(some 55), (some (54, false)), (.mv (.t 10))⟩,
             ⟨(some 56), (some (54, false)), (.mv (.t 9))⟩,
             ⟨(some 57), (some (54, false)), (.ixL 7 (.t 55) (.t 56))⟩,
             ⟨(some 58), (some (54, false)), (.ld (some 7) (.t 57))⟩,
             ⟨(some 59), (some (54, false)), (.call (.k (.clo F_ref38_Link [])) [(.t 58)])⟩,
             ⟨(some 60), (some (54, false)), (.mv (.t 10))⟩,
             ⟨(some 61), (some (54, false)), (.mv (.t 9))⟩,
             ⟨(some 62), (some (54, false)), (.ixL 7 (.t 60) (.t 61))⟩,
             ⟨(some 63), (some (54, false)), (.fa 6 (.t 62))⟩,
             ⟨(some 64), (some (54, false)), (.ld none (.t 63))⟩,
             ⟨(some 65), (some (54, false)), (.bin .eql false (.t 59) (.t 64))⟩,
             ⟨(some 66), none, (.pick (.t 54) (.k (.v (.bool true))) (.t 65))⟩,
             ⟨(some 11), none, (.mv (.t 66))⟩])
           (.seq
            (.reg 16 none [6] [
              ⟨(some 67), none, (.mv (.t 10))⟩,
              ⟨(some 68), none, (.call (.k (.clo F_register_Check [])) [(.t 67)])⟩,
              ⟨(some 69), none, (.bin .eql false (.t 68) (.k (.v (.int .i64 0))))⟩,
              ⟨(some 70), none, (.mv (.t 2))⟩,
              ⟨(some 71), none, (.bin .eql false (.t 70) (.k (.v (.string ⟨#[]⟩))))⟩,
              ⟨(some 72), none, (.bin .eql true (.t 69) (.t 71))⟩,
              ⟨(some 73), none, (.mv (.t 72))⟩,
              ⟨(some 74), (some (73, false)), (.mv (.t 11))⟩,
              ⟨(some 75), none, (.pick (.t 73) (.k (.v (.bool true))) (.t 74))⟩,
              ⟨(some 76), none, (.mv (.t 75))⟩,
              ⟨(some 77), (some (76, true)), (.call (.k (.clo F_law38_awake [])) [])⟩,
              ⟨(some 78), none, (.pick (.t 76) (.t 77) (.k (.v (.bool false))))⟩,
              ⟨(some 6), none, (.mv (.t 78))⟩])
            .ret))))))))))
theorem fn_law38_RegisterChain : FnIR Try.prog F_law38_RegisterChain 79 [(0, [0, 1, 2]), (1, [0, 1, 2, 14]), (2, [6]), (3, [1, 2, 7]), (4, [1, 2, 7, 20, 21]), (5, [1, 2, 7, 20, 21, 22]), (6, [1, 2, 7, 8, 20, 21]), (7, [1, 2, 7, 20, 21, 29]), (8, [6]), (9, [1, 2, 7, 20, 21]), (10, [1, 2, 7, 33]), (11, [6]), (12, [2, 7, 9]), (13, [2, 9, 10]), (14, [2, 9, 10]), (15, [2, 10, 11]), (16, [6])] ir_law38_RegisterChain [(.tmp 6)] :=
  ⟨Try.f3, _, Try.func3, rfl, by kernel_rfl, rfl, by kernel_rfl, by kernel_rfl⟩

/-- dataenclave/dataenclavelaw38.RegisterLine -/
def ir_law38_RegisterLine : RC :=
  (.seq
   (.reg 0 none [0] [
     ⟨(some 2), none, (.mv (.k (.v (.bool false))))⟩])
   (.seq
    (.reg 1 none [3] [
      ⟨(some 13), none, (.mv (.t 0))⟩,
      ⟨(some 14), none, (.call (.k (.clo F_draw_New [])) [(.t 13)])⟩,
      ⟨(some 15), none, (.call (.k (.clo F_made_Register [])) [(.t 14), (.k (.v (.int .i64 8)))])⟩,
      ⟨(some 3), none, (.mv (.t 15))⟩])
    (.seq
     (.reg 2 none [3, 4] [
       ⟨(some 16), none, (.mv (.t 3))⟩,
       ⟨(some 17), none, (.call (.k (.clo F_register_InForce [])) [(.t 16)])⟩,
       ⟨(some 4), none, (.mv (.t 17))⟩])
     (.seq
      (.seq
       (.reg 3 none [3, 4, 18, 19, 20] [
         ⟨(some 18), none, (.mv (.t 3))⟩,
         ⟨(some 19), none, (.lenL (.t 18))⟩,
         ⟨(some 20), none, (.mv (.k (.v (.int .i64 0))))⟩])
       (.block 0
        (.loop
         (.seq
          (.reg 4 none [3, 4, 18, 19, 20, 21] [
            ⟨(some 21), none, (.bin .lss false (.t 20) (.t 19))⟩])
          (.seq
           (.cond (.t 21)
            .skip
            (.exit 0))
           (.seq
            (.block 1
             (.seq
              (.reg 5 none [3, 4, 6, 18, 19, 20] [
                ⟨(some 22), none, (.ixL 7 (.t 18) (.t 20))⟩,
                ⟨(some 23), none, (.ld (some 7) (.t 22))⟩,
                ⟨(some 6), none, (.new (.agg [(.v (.int .i64 0)), (.v (.int .u64 0)), (.v (.int .i64 0)), (.v (.int .i64 0)), (.v (.int .i64 0)), (.v (.string ⟨#[]⟩)), (.v (.int .u64 0))]))⟩,
                ⟨none, none, (.st 7 (.t 6) (.t 23))⟩])
              (.seq
               (.reg 6 none [3, 4, 6, 7, 8, 18, 19, 20] [
                 ⟨(some 25), none, (.mv (.t 3))⟩,
                 ⟨(some 26), none, (.fa 0 (.t 6))⟩,
                 ⟨(some 27), none, (.ld none (.t 26))⟩,
                 ⟨(some 28), none, (.call (.k (.clo F_register_History [])) [(.t 25), (.t 27)])⟩,
                 ⟨(some 24), none, (.mv (.t 28))⟩,
                 ⟨(some 29), none, (.ex (.t 24) 0)⟩,
                 ⟨(some 30), none, (.ex (.t 24) 1)⟩,
                 ⟨(some 7), none, (.mv (.t 29))⟩,
                 ⟨(some 8), none, (.mv (.t 30))⟩])
               (.seq
                (.seq
                 (.reg 7 none [3, 4, 6, 7, 8, 18, 19, 20, 36] [
                   ⟨(some 31), none, (.mv (.t 8))⟩,
                   ⟨(some 32), none, (.bin .neq false (.t 31) (.k (.v (.int .i64 0))))⟩,
                   ⟨(some 33), none, (.fa 2 (.t 6))⟩,
                   ⟨(some 34), none, (.ld none (.t 33))⟩,
                   ⟨(some 35), none, (.bin .eql false (.t 34) (.k (.v (.int .i64 2))))⟩,
                   ⟨(some 36), none, (.bin .neq true (.t 32) (.t 35))⟩])
                 (.cond (.t 36)
                  (.seq
                   (.reg 8 none [2] [
                     ⟨(some 2), none, (.mv (.k (.v (.bool false))))⟩])
                   .ret)
                  .skip))
                (.seq
                 (.seq
                  (.reg 9 none [3, 4, 6, 7, 18, 19, 20, 38] [
                    ⟨(some 37), none, (.mv (.t 8))⟩,
                    ⟨(some 38), none, (.bin .neq false (.t 37) (.k (.v (.int .i64 0))))⟩])
                  (.cond (.t 38)
                   (.exit 1)
                   .skip))
                 (.seq
                  (.seq
                   (.reg 10 (some [0, 1, 3, 7, 15, 31, 63, 15, 143, 511, 1023]) [3, 4, 7, 18, 19, 20, 49] [
                     ⟨(some 39), none, (.mv (.t 7))⟩,
                     ⟨(some 40), none, (.lenL (.t 39))⟩,
                     ⟨(some 41), none, (.bin .eql false (.t 40) (.k (.v (.int .i64 0))))⟩,
                     ⟨(some 42), none, (.mv (.t 41))⟩,
                     ⟨(some 43), (some (42, false)), (.mv (.t 7))⟩,
                     ⟨(some 44), (some (42, false)), (.ixL 1 (.t 43) (.k (.v (.int .i64 0))))⟩,
                     ⟨(some 45), (some (42, false)), (.ld none (.t 44))⟩,
                     ⟨(some 46), (some (42, false)), (.fa 0 (.t 6))⟩,
                     ⟨(some 47), (some (42, false)), (.ld none (.t 46))⟩,
                     ⟨(some 48), (some (42, false)), (.bin .neq false (.t 45) (.t 47))⟩,
                     ⟨(some 49), none, (.pick (.t 42) (.k (.v (.bool true))) (.t 48))⟩])
                   (.cond (.t 49)
                    (.seq
                     (.reg 11 none [2] [
                       ⟨(some 2), none, (.mv (.k (.v (.bool false))))⟩])
                     .ret)
                    .skip))
                  (.seq
                   (.seq
                    (.reg 12 none [3, 4, 7, 18, 19, 20, 50, 51, 52] [
                      ⟨(some 50), none, (.mv (.t 7))⟩,
                      ⟨(some 51), none, (.lenL (.t 50))⟩,
                      ⟨(some 52), none, (.mv (.k (.v (.int .i64 0))))⟩])
                    (.block 2
                     (.loop
                      (.seq
                       (.reg 13 none [3, 4, 7, 18, 19, 20, 50, 51, 52, 53] [
                         ⟨(some 53), none, (.bin .lss false (.t 52) (.t 51))⟩])
                       (.seq
                        (.cond (.t 53)
                         .skip
                         (.exit 2))
                        (.seq
                         (.block 3
                          (.seq
                           (.reg 14 none [3, 4, 7, 9, 10, 18, 19, 20, 50, 51, 52] [
                             ⟨(some 54), none, (.mv (.t 52))⟩,
                             ⟨(some 55), none, (.ixL 1 (.t 50) (.t 52))⟩,
                             ⟨(some 56), none, (.ld none (.t 55))⟩,
                             ⟨(some 9), none, (.mv (.t 54))⟩,
                             ⟨(some 10), none, (.mv (.t 56))⟩])
                           (.seq
                            (.seq
                             (.reg 15 none [3, 4, 7, 9, 10, 18, 19, 20, 50, 51, 52, 91] [
                               ⟨(some 57), none, (.mv (.t 10))⟩,
                               ⟨(some 58), none, (.bin .lss false (.t 57) (.k (.v (.int .i64 1))))⟩,
                               ⟨(some 59), none, (.mv (.t 58))⟩,
                               ⟨(some 60), (some (59, false)), (.mv (.t 10))⟩,
                               ⟨(some 61), (some (59, false)), (.mv (.t 3))⟩,
                               ⟨(some 62), (some (59, false)), (.lenL (.t 61))⟩,
                               ⟨(some 63), (some (59, false)), (.bin .gtr false (.t 60) (.t 62))⟩,
                               ⟨(some 64), none, (.pick (.t 59) (.k (.v (.bool true))) (.t 63))⟩,
                               ⟨(some 65), none, (.mv (.t 64))⟩,
                               ⟨(some 66), (some (65, false)), (.mv (.t 9))⟩,
                               ⟨(some 67), (some (65, false)), (.bin .gtr false (.t 66) (.k (.v (.int .i64 0))))⟩,
                               ⟨(some 68), (some (65, false)), (.mv (.t 67))⟩,
                               ⟨(some 69), (some (68, true)), (.mv (.t 10))⟩,
                               ⟨(some 70), (some (68, true)), (.mv (.t 7))⟩,
                               ⟨(some 71), (some (68, true)), (.mv (.t 9))⟩,
                               ⟨(some 72), (some (68, true)), (.bin .sub false (.t 71) (.k (.v (.int .i64 1))))⟩,
                               ⟨(some 73), (some (68, true)), (.ixL 1 (.t 70) (.t 72))⟩,
                               ⟨(some 74), (some (68, true)), (.ld none (.t 73))⟩,
                               ⟨(some 75), (some (68, true)), (.bin .geq false (.t 69) (.t 74))⟩,
                               ⟨(some 76), (some (68, true)), (.mv (.t 75))⟩,
                               ⟨(some 77), (some (76, false)), (.mv (.t 3))⟩,
                               ⟨(some 78), (some (76, false)), (.mv (.t 7))⟩,
                               ⟨(some 79), (some (76, false)), (.mv (.t 9))⟩,
                               ⟨(some 80), (some (76, false)), (.bin .sub false (.t 79) (.k (.v (.int .i64 1))))⟩,
                               ⟨(some 81), (some (76, false)), (.ixL 1 (.t 78) (.t 80))⟩,
                               ⟨(some 82), (some (76, false)), (.ld none (.t 81))⟩,
                               ⟨(some 83), (some (76, false)), (.bin .sub false (.t 82) (.k (.v (.int .i64 1))))⟩,
                               ⟨(some 84), (some (76, false)), (.ixL 7 (.t 77) (.t 83))⟩,
                               ⟨(some 85), (some (76, false)), (.fa 3 (.t 84))⟩,
                               ⟨(some 86), (some (76, false)), (.ld none (.t 85))⟩,
                               ⟨(some 87), (some (76, false)), (.mv (.t 10))⟩,
                               ⟨(some 88), (some (76, false)), (.bin .neq false (.t 86) (.t 87))⟩,
                               ⟨(some 89), (some (68, true)), (.pick (.t 76) (.k (.v (.bool true))) (.t 88))⟩,
                               ⟨(some 90), (some (65, false)), (.pick (.t 68) (.t 89) (.k (.v (.bool false))))⟩,
                               ⟨(some 91), none, (.pick (.t 65) (.k (.v (.bool true))) (.t 90))⟩])
                             (.cond (.t 91)
                              (.seq
                               (.reg 16 none [2] [
                                 ⟨(some 2), none, (.mv (.k (.v (.bool false))))⟩])
                               .ret)
                              .skip))
                            (.seq
                             (.reg 17 none [3, 4, 7, 9, 10, 18, 19, 20, 50, 51, 52, 92, 93, 94] [
                               ⟨(some 92), none, (.mv (.t 4))⟩,
                               ⟨(some 93), none, (.lenL (.t 92))⟩,
                               ⟨(some 94), none, (.mv (.k (.v (.int .i64 0))))⟩])
                             (.block 4
                              (.loop
                               (.seq
                                (.reg 18 none [3, 4, 7, 9, 10, 18, 19, 20, 50, 51, 52, 92, 93, 94, 95] [
                                  ⟨(some 95), none, (.bin .lss false (.t 94) (.t 93))⟩])
                                (.seq
                                 (.cond (.t 95)
                                  .skip
                                  (.exit 4))
                                 (.seq
                                  (.block 5
                                   (.seq
                                    (.reg 19 none [3, 4, 7, 9, 10, 12, 18, 19, 20, 50, 51, 52, 92, 93, 94] [
                                      ⟨(some 96), none, (.ixL 1 (.t 92) (.t 94))⟩,
                                      ⟨(some 97), none, (.ld none (.t 96))⟩,
                                      ⟨(some 12), none, (.mv (.t 97))⟩])
                                    (.seq
                                     (.reg 20 none [3, 4, 7, 9, 10, 18, 19, 20, 50, 51, 52, 92, 93, 94, 104] [
                                       ⟨(some 98), none, (.mv (.t 9))⟩,
                                       ⟨(some 99), none, (.bin .gtr false (.t 98) (.k (.v (.int .i64 0))))⟩,
                                       ⟨(some 100), none, (.mv (.t 99))⟩,
                                       ⟨(some 101), (some (100, true)), (.mv (.t 12))⟩,
                                       ⟨(some 102), (some (100, true)), (.mv (.t 10))⟩,
                                       ⟨(some 103), (some (100, true)), (.bin .eql false (.t 101) (.t 102))⟩,
                                       ⟨(some 104), none, (.pick (.t 100) (.t 103) (.k (.v (.bool false))))⟩])
                                     (.cond (.t 104)
                                      (.seq
                                       (.reg 21 none [2] [
                                         ⟨(some 2), none, (.mv (.k (.v (.bool false))))⟩])
                                       .ret)
                                      .skip))))
                                  (.reg 22 none [3, 4, 7, 9, 10, 18, 19, 20, 50, 51, 52, 92, 93, 94] [
                                    ⟨(some 105), none, (.bin .add false (.t 94) (.k (.v (.int .i64 1))))⟩,
                                    ⟨(some 94), none, (.mv (.t 105))⟩]))))))))))
                         (.reg 23 none [3, 4, 7, 18, 19, 20, 50, 51, 52] [
                           ⟨(some 106), none, (.bin .add false (.t 52) (.k (.v (.int .i64 1))))⟩,
                           ⟨(some 52), none, (.mv (.t 106))⟩])))))))
                   (.seq
                    (.reg 24 none [3, 4, 18, 19, 20, 118] [
                      ⟨(some 107), none, (.mv (.t 3))⟩,
                      ⟨(some 108), none, (.mv (.t 7))⟩,
                      ⟨(some 109), none, (.mv (.t 7))⟩,
                      ⟨(some 110), none, (.lenL (.t 109))⟩,
                      ⟨(some 111), none, (.bin .sub false (.t 110) (.k (.v (.int .i64 1))))⟩,
                      ⟨(some 112), none, (.ixL 1 (.t 108) (.t 111))⟩,
                      ⟨(some 113), none, (.ld none (.t 112))⟩,
                      ⟨(some 114), none, (.bin .sub false (.t 113) (.k (.v (.int .i64 1))))⟩,
                      ⟨(some 115), none, (.ixL 7 (.t 107) (.t 114))⟩,
                      ⟨(some 116), none, (.fa 2 (.t 115))⟩,
                      ⟨(some 117), none, (.ld none (.t 116))⟩,
                      ⟨(some 118), none, (.bin .neq false (.t 117) (.k (.v (.int .i64 1))))⟩])
                    (.cond (.t 118)
                     (.seq
                      (.reg 25 none [2] [
                        ⟨(some 2), none, (.mv (.k (.v (.bool false))))⟩])
                      .ret)
                     .skip)))))))))
            (.reg 26 none [3, 4, 18, 19, 20] [
              ⟨(some 119), none, (.bin .add false (.t 20) (.k (.v (.int .i64 1))))⟩,
              ⟨(some 20), none, (.mv (.t 119))⟩])))))))
      (.seq
       (.reg 27 none [2] [
         ⟨(some 120), none, (.call (.k (.clo F_law38_awake [])) [])⟩,
         ⟨(some 2), none, (.mv (.t 120))⟩])
       .ret)))))
theorem fn_law38_RegisterLine : FnIR Try.prog F_law38_RegisterLine 121 [(0, [0]), (1, [3]), (2, [3, 4]), (3, [3, 4, 18, 19, 20]), (4, [3, 4, 18, 19, 20, 21]), (5, [3, 4, 6, 18, 19, 20]), (6, [3, 4, 6, 7, 8, 18, 19, 20]), (7, [3, 4, 6, 7, 8, 18, 19, 20, 36]), (8, [2]), (9, [3, 4, 6, 7, 18, 19, 20, 38]), (10, [3, 4, 7, 18, 19, 20, 49]), (11, [2]), (12, [3, 4, 7, 18, 19, 20, 50, 51, 52]), (13, [3, 4, 7, 18, 19, 20, 50, 51, 52, 53]), (14, [3, 4, 7, 9, 10, 18, 19, 20, 50, 51, 52]), (15, [3, 4, 7, 9, 10, 18, 19, 20, 50, 51, 52, 91]), (16, [2]), (17, [3, 4, 7, 9, 10, 18, 19, 20, 50, 51, 52, 92, 93, 94]), (18, [3, 4, 7, 9, 10, 18, 19, 20, 50, 51, 52, 92, 93, 94, 95]), (19, [3, 4, 7, 9, 10, 12, 18, 19, 20, 50, 51, 52, 92, 93, 94]), (20, [3, 4, 7, 9, 10, 18, 19, 20, 50, 51, 52, 92, 93, 94, 104]), (21, [2]), (22, [3, 4, 7, 9, 10, 18, 19, 20, 50, 51, 52, 92, 93, 94]), (23, [3, 4, 7, 18, 19, 20, 50, 51, 52]), (24, [3, 4, 18, 19, 20, 118]), (25, [2]), (26, [3, 4, 18, 19, 20]), (27, [2])] ir_law38_RegisterLine [(.tmp 2)] :=
  ⟨Try.f4, _, Try.func4, rfl, by kernel_rfl, rfl, by kernel_rfl, by kernel_rfl⟩

/-- dataenclave/dataenclavelaw38.RegisterAnswers -/
def ir_law38_RegisterAnswers : RC :=
  (.seq
   (.reg 0 none [0, 2, 3, 4, 5, 6, 7, 8, 10] [
     ⟨(some 10), none, (.box (.t 1))⟩,
     ⟨(some 18), none, (.mv (.k (.v (.bool false))))⟩])
   (.seq
    (.seq
     (.reg 1 none [0, 2, 3, 4, 5, 6, 7, 8, 10, 58] [
       ⟨(some 40), none, (.mv (.t 0))⟩,
       ⟨(some 41), none, (.lenL (.t 40))⟩,
       ⟨(some 42), none, (.bin .gtr false (.t 41) (.k (.v (.int .i64 500))))⟩,
       ⟨(some 43), none, (.mv (.t 42))⟩,
       ⟨(some 44), (some (43, false)), (.fa 5 (.t 10))⟩,
       ⟨(some 45), (some (43, false)), (.ld none (.t 44))⟩,
       ⟨(some 46), (some (43, false)), (.lenS (.t 45))⟩,
       ⟨(some 47), (some (43, false)), (.bin .gtr false (.t 46) (.k (.v (.int .i64 500))))⟩,
       ⟨(some 48), none, (.pick (.t 43) (.k (.v (.bool true))) (.t 47))⟩,
       ⟨(some 49), none, (.mv (.t 48))⟩,
       ⟨(some 50), (some (49, false)), (.mv (.t 2))⟩,
       ⟨(some 51), (some (49, false)), (.lenL (.t 50))⟩,
       ⟨(some 52), (some (49, false)), (.bin .gtr false (.t 51) (.k (.v (.int .i64 20))))⟩,
       ⟨(some 53), none, (.pick (.t 49) (.k (.v (.bool true))) (.t 52))⟩,
       ⟨(some 54), none, (.mv (.t 53))⟩,
       ⟨(some 55), (some (54, false)), (.mv (.t 6))⟩,
       ⟨(some 56), (some (54, false)), (.lenS (.t 55))⟩,
       ⟨(some 57), (some (54, false)), (.bin .gtr false (.t 56) (.k (.v (.int .i64 500))))⟩,
       ⟨(some 58), none, (.pick (.t 54) (.k (.v (.bool true))) (.t 57))⟩])
     (.cond (.t 58)
      (.seq
       (.reg 2 none [18] [
         ⟨(some 59), none, (.call (.k (.clo F_law38_awake [])) [])⟩,
         ⟨(some 18), none, (.mv (.t 59))⟩])
       .ret)
      .skip))
    (.seq
     (.seq
      (.reg 3 none [0, 2, 3, 4, 5, 6, 7, 8, 10, 61, 62] [
        ⟨(some 60), none, (.mv (.t 2))⟩,
        ⟨(some 61), none, (.lenL (.t 60))⟩,
        ⟨(some 62), none, (.mv (.k (.v (.int .i64 0))))⟩])
      (.block 0
       (.loop
        (.seq
         (.reg 4 none [0, 2, 3, 4, 5, 6, 7, 8, 10, 61, 62, 63] [
           ⟨(some 63), none, (.bin .lss false (.t 62) (.t 61))⟩])
         (.seq
          (.cond (.t 63)
           .skip
           (.exit 0))
          (.seq
           (.block 1
            (.seq
             (.reg 5 none [0, 2, 3, 4, 5, 6, 7, 8, 10, 19, 61, 62] [
               ⟨(some 64), none, (.mv (.t 62))⟩,
               ⟨(some 19), none, (.mv (.t 64))⟩])
             (.seq
              (.reg 6 none [0, 2, 3, 4, 5, 6, 7, 8, 10, 61, 62, 71] [
                ⟨(some 65), none, (.mv (.t 2))⟩,
                ⟨(some 66), none, (.mv (.t 19))⟩,
                ⟨(some 67), none, (.ixL 7 (.t 65) (.t 66))⟩,
                ⟨(some 68), none, (.fa 5 (.t 67))⟩,
                ⟨(some 69), none, (.ld none (.t 68))⟩,
                ⟨(some 70), none, (.lenS (.t 69))⟩,
                ⟨(some 71), none, (.bin .gtr false (.t 70) (.k (.v (.int .i64 300))))⟩])
              (.cond (.t 71)
               (.seq
                (.reg 7 none [18] [
                  ⟨(some 72), none, (.call (.k (.clo F_law38_awake [])) [])⟩,
                  ⟨(some 18), none, (.mv (.t 72))⟩])
                .ret)
               .skip))))
           (.reg 8 none [0, 2, 3, 4, 5, 6, 7, 8, 10, 61, 62] [
             ⟨(some 73), none, (.bin .add false (.t 62) (.k (.v (.int .i64 1))))⟩,
             ⟨(some 62), none, (.mv (.t 73))⟩])))))))
     (.seq
      (.reg 9 none [0, 2, 3, 4, 5, 6, 8, 10, 20] [
        ⟨(some 74), none, (.mv (.t 7))⟩,
        ⟨(some 75), none, (.call (.k (.clo F_draw_New [])) [(.t 74)])⟩,
        ⟨(some 20), none, (.mv (.t 75))⟩])
      (.seq
       (.reg 10 none [0, 2, 3, 4, 5, 6, 8, 10, 21] [
         ⟨(some 76), none, (.mv (.t 20))⟩,
         ⟨(some 77), none, (.call (.k (.clo F_made_Register [])) [(.t 76), (.k (.v (.int .i64 8)))])⟩,
         ⟨(some 21), none, (.mv (.t 77))⟩])
       (.seq
        (.reg 11 none [0, 2, 3, 4, 5, 6, 8, 10, 21, 22] [
          ⟨(some 78), none, (.bsl 7 0 [])⟩,
          ⟨(some 79), none, (.mv (.t 21))⟩,
          ⟨(some 80), none, (.app 7 64 false (.t 78) (.t 79))⟩,
          ⟨(some 22), none, (.mv (.t 80))⟩])
        (.seq
         (.seq
          (.reg 12 none [0, 2, 3, 4, 5, 6, 8, 10, 21, 22, 83] [
            ⟨(some 81), none, (.mv (.t 22))⟩,
            ⟨(some 82), none, (.lenL (.t 81))⟩,
            ⟨(some 83), none, (.bin .gtr false (.t 82) (.k (.v (.int .i64 0))))⟩])
          (.cond (.t 83)
           (.seq
            (.reg 13 none [0, 2, 3, 4, 5, 6, 8, 10, 21, 22, 23] [
              ⟨(some 84), none, (.mv (.t 8))⟩,
              ⟨(some 85), none, (.mv (.t 22))⟩,
              ⟨(some 86), none, (.lenL (.t 85))⟩,
              ⟨(some 87), none, (.call (.k (.clo F_draw_Mod [])) [(.t 84), (.t 86)])⟩,
              ⟨(some 23), none, (.mv (.t 87))⟩])
            (.seq
             (.reg 14 none [0, 2, 3, 4, 5, 6, 10, 21, 22, 23, 89] [
               ⟨(some 88), none, (.mv (.t 8))⟩,
               ⟨(some 89), none, (.call (.k (.clo F_draw_Mod [])) [(.t 88), (.k (.v (.int .i64 7)))])⟩])
             (.block 2
              (.seq
               (.reg 17 none [0, 2, 3, 4, 5, 6, 10, 21, 22, 23, 89, 107] [
                 ⟨(some 108), none, (.bin .eql false (.t 89) (.k (.v (.int .i64 0))))⟩,
                 ⟨(some 107), none, (.mv (.t 108))⟩])
               (.cond (.t 107)
                (.reg 18 none [0, 2, 3, 4, 5, 6, 10, 21, 22] [
                  ⟨(some 109), none, (.mv (.t 22))⟩,
                  ⟨(some 110), none, (.mv (.t 23))⟩,
                  ⟨(some 111), none, (.ixL 7 (.t 109) (.t 110))⟩,
                  ⟨(some 112), none, (.fa 5 (.t 111))⟩,
                  ⟨(some 113), none, (.ld none (.t 112))⟩,
                  ⟨(some 114), none, (.bin .add false (.t 113) (.k (.v (.string ⟨#[120]⟩))))⟩,
                  ⟨(some 115), none, (.ixL 7 (.t 109) (.t 110))⟩,
                  ⟨(some 116), none, (.fa 5 (.t 115))⟩,
                  ⟨none, none, (.st 1 (.t 116) (.t 114))⟩])
                (.seq
                 (.reg 19 none [0, 2, 3, 4, 5, 6, 10, 21, 22, 23, 89, 117] [
                   ⟨(some 118), none, (.bin .eql false (.t 89) (.k (.v (.int .i64 1))))⟩,
                   ⟨(some 117), none, (.mv (.t 118))⟩])
                 (.cond (.t 117)
                  (.reg 20 none [0, 2, 3, 4, 5, 6, 10, 21, 22] [
                    ⟨(some 119), none, (.mv (.t 22))⟩,
                    ⟨(some 120), none, (.mv (.t 23))⟩,
                    ⟨(some 121), none, (.mv (.t 4))⟩,
                    ⟨(some 122), none, (.ixL 7 (.t 119) (.t 120))⟩,
                    ⟨(some 123), none, (.fa 3 (.t 122))⟩,
                    ⟨none, none, (.st 1 (.t 123) (.t 121))⟩])
                  (.seq
                   (.reg 21 none [0, 2, 3, 4, 5, 6, 10, 21, 22, 23, 89, 124] [
                     ⟨(some 125), none, (.bin .eql false (.t 89) (.k (.v (.int .i64 2))))⟩,
                     ⟨(some 124), none, (.mv (.t 125))⟩])
                   (.cond (.t 124)
                    (.reg 22 none [0, 2, 3, 4, 5, 6, 10, 21, 22] [
                      ⟨(some 126), none, (.mv (.t 22))⟩,
                      ⟨(some 127), none, (.mv (.t 23))⟩,
                      ⟨(some 128), none, (.ixL 7 (.t 126) (.t 127))⟩,
                      ⟨(some 129), none, (.fa 6 (.t 128))⟩,
                      ⟨(some 130), none, (.ld none (.t 129))⟩,
                      ⟨(some 131), none, (.bin .add false (.t 130) (.k (.v (.int .u64 1))))⟩,
                      ⟨(some 132), none, (.ixL 7 (.t 126) (.t 127))⟩,
                      ⟨(some 133), none, (.fa 6 (.t 132))⟩,
                      ⟨none, none, (.st 1 (.t 133) (.t 131))⟩])
                    (.seq
                     (.reg 23 none [0, 2, 3, 4, 5, 6, 10, 21, 22, 23, 89, 134] [
                       ⟨(some 135), none, (.bin .eql false (.t 89) (.k (.v (.int .i64 3))))⟩,
                       ⟨(some 134), none, (.mv (.t 135))⟩])
                     (.cond (.t 134)
                      (.seq
                       (.reg 24 none [0, 2, 3, 4, 5, 6, 10, 21, 22, 23] [
                         ⟨(some 136), none, (.mv (.t 22))⟩,
                         ⟨(some 137), none, (.mv (.t 23))⟩,
                         ⟨(some 138), none, (.mv (.t 3))⟩,
                         ⟨(some 139), none, (.call (.k (.clo F_draw_Mod [])) [(.t 138), (.k (.v (.int .i64 6)))])⟩,
                         ⟨(some 140), none, (.bin .sub false (.t 139) (.k (.v (.int .i64 1))))⟩,
                         ⟨(some 141), none, (.ixL 7 (.t 136) (.t 137))⟩,
                         ⟨(some 142), none, (.fa 2 (.t 141))⟩,
                         ⟨none, none, (.st 1 (.t 142) (.t 140))⟩])
                       (.reg 25 none [0, 2, 3, 4, 5, 6, 10, 21, 22] [
                         ⟨(some 143), none, (.mv (.t 22))⟩,
                         ⟨(some 144), none, (.mv (.t 23))⟩,
                         ⟨(some 145), none, (.mv (.t 22))⟩,
                         ⟨(some 146), none, (.mv (.t 23))⟩,
                         ⟨(some 147), none, (.ixL 7 (.t 145) (.t 146))⟩,
                         ⟨(some 148), none, (.ld (some 7) (.t 147))⟩,
                         ⟨(some 149), none, (.call (.k (.clo F_ref38_Link [])) [(.t 148)])⟩,
                         ⟨(some 150), none, (.ixL 7 (.t 143) (.t 144))⟩,
                         ⟨(some 151), none, (.fa 6 (.t 150))⟩,
                         ⟨none, none, (.st 1 (.t 151) (.t 149))⟩]))
                      (.seq
                       (.reg 26 none [0, 2, 3, 4, 5, 6, 10, 21, 22, 23, 89, 152] [
                         ⟨(some 153), none, (.bin .eql false (.t 89) (.k (.v (.int .i64 4))))⟩,
                         ⟨(some 152), none, (.mv (.t 153))⟩])
                       (.cond (.t 152)
                        (.seq
                         (.reg 27 none [0, 2, 3, 4, 5, 6, 10, 21, 22, 23] [
                           ⟨(some 154), none, (.mv (.t 22))⟩,
                           ⟨(some 155), none, (.mv (.t 23))⟩,
                           ⟨(some 156), none, (.mv (.t 5))⟩,
                           ⟨(some 157), none, (.call (.k (.clo F_draw_Mod [])) [(.t 156), (.k (.v (.int .i64 9)))])⟩,
                           ⟨(some 158), none, (.ixL 7 (.t 154) (.t 155))⟩,
                           ⟨(some 159), none, (.fa 4 (.t 158))⟩,
                           ⟨none, none, (.st 1 (.t 159) (.t 157))⟩])
                         (.reg 28 none [0, 2, 3, 4, 5, 6, 10, 21, 22] [
                           ⟨(some 160), none, (.mv (.t 22))⟩,
                           ⟨(some 161), none, (.mv (.t 23))⟩,
                           ⟨(some 162), none, (.mv (.t 22))⟩,
                           ⟨(some 163), none, (.mv (.t 23))⟩,
                           ⟨(some 164), none, (.ixL 7 (.t 162) (.t 163))⟩,
                           ⟨(some 165), none, (.ld (some 7) (.t 164))⟩,
                           ⟨(some 166), none, (.call (.k (.clo F_ref38_Link [])) [(.t 165)])⟩,
                           ⟨(some 167), none, (.ixL 7 (.t 160) (.t 161))⟩,
                           ⟨(some 168), none, (.fa 6 (.t 167))⟩,
                           ⟨none, none, (.st 1 (.t 168) (.t 166))⟩]))
                        (.seq
                         (.reg 29 none [0, 2, 3, 4, 5, 6, 10, 21, 22, 23, 169] [
                           ⟨(some 170), none, (.bin .eql false (.t 89) (.k (.v (.int .i64 5))))⟩,
                           ⟨(some 169), none, (.mv (.t 170))⟩])
                         (.cond (.t 169)
                          (.reg 30 none [0, 2, 3, 4, 5, 6, 10, 21, 22] [
                            ⟨(some 171), none, (.mv (.t 22))⟩,
                            ⟨(some 172), none, (.slL 7 (.t 171) (some (.k (.v (.int .i64 1)))) none)⟩,
                            ⟨(some 22), none, (.mv (.t 172))⟩])
                          (.seq
                           (.reg 15 none [0, 2, 3, 4, 5, 6, 10, 21, 22, 23] [
                             ⟨(some 90), none, (.mv (.t 22))⟩,
                             ⟨(some 91), none, (.mv (.t 23))⟩,
                             ⟨(some 92), none, (.ixL 7 (.t 90) (.t 91))⟩,
                             ⟨(some 93), none, (.fa 1 (.t 92))⟩,
                             ⟨(some 94), none, (.ld none (.t 93))⟩,
                             ⟨(some 95), none, (.bin .add false (.t 94) (.k (.v (.int .u64 1))))⟩,
                             ⟨(some 96), none, (.ixL 7 (.t 90) (.t 91))⟩,
                             ⟨(some 97), none, (.fa 1 (.t 96))⟩,
                             ⟨none, none, (.st 1 (.t 97) (.t 95))⟩])
                           (.reg 16 none [0, 2, 3, 4, 5, 6, 10, 21, 22] [
                             ⟨(some 98), none, (.mv (.t 22))⟩,
                             ⟨(some 99), none, (.mv (.t 23))⟩,
                             ⟨(some 100), none, (.mv (.t 22))⟩,
                             ⟨(some 101), none, (.mv (.t 23))⟩,
                             ⟨(some 102), none, (.ixL 7 (.t 100) (.t 101))⟩,
                             ⟨(some 103), none, (.ld (some 7) (.t 102))⟩,
                             ⟨(some 104), none, (.call (.k (.clo F_ref38_Link [])) [(.t 103)])⟩,
                             ⟨(some 105), none, (.ixL 7 (.t 98) (.t 99))⟩,
                             ⟨(some 106), none, (.fa 6 (.t 105))⟩,
                             ⟨none, none, (.st 1 (.t 106) (.t 104))⟩])))))))))))))))))
           .skip))
         (.seq
          (.seq
           (.reg 31 (some [0, 1, 0, 7, 15, 31, 63, 127, 63, 511, 1023, 2047]) [2, 3, 4, 5, 6, 21, 22, 184] [
             ⟨(some 173), none, (.mv (.t 0))⟩,
             ⟨(some 174), none, (.call (.k (.clo F_register_Sum [])) [(.t 173)])⟩,
             ⟨(some 175), none, (.mv (.t 0))⟩,
             ⟨(some 176), none, (.call (.k (.clo F_ref38_Sum [])) [(.t 175)])⟩,
             ⟨(some 177), none, (.bin .neq false (.t 174) (.t 176))⟩,
             ⟨(some 178), none, (.mv (.t 177))⟩,
             ⟨(some 179), (some (178, false)), (.ld (some 7) (.t 10))⟩,
             ⟨(some 180), (some (178, false)), (.call (.k (.clo F_register_Link [])) [(.t 179)])⟩,
             ⟨(some 181), (some (178, false)), (.ld (some 7) (.t 10))⟩,
             ⟨(some 182), (some (178, false)), (.call (.k (.clo F_ref38_Link [])) [(.t 181)])⟩,
             ⟨(some 183), (some (178, false)), (.bin .neq false (.t 180) (.t 182))⟩,
             ⟨(some 184), none, (.pick (.t 178) (.k (.v (.bool true))) (.t 183))⟩])
           (.cond (.t 184)
            (.seq
             (.reg 32 none [18] [
               ⟨(some 18), none, (.mv (.k (.v (.bool false))))⟩])
             .ret)
            .skip))
          (.seq
           (.seq
            (.reg 33 none [3, 4, 5, 6, 188, 189, 190] [
              ⟨(some 185), none, (.mv (.t 2))⟩,
              ⟨(some 186), none, (.mv (.t 21))⟩,
              ⟨(some 187), none, (.mv (.t 22))⟩,
              ⟨(some 188), none, (.bsl 1 3 [(.t 185), (.t 186), (.t 187)])⟩,
              ⟨(some 189), none, (.lenL (.t 188))⟩,
              ⟨(some 190), none, (.mv (.k (.v (.int .i64 0))))⟩])
            (.block 3
             (.loop
              (.seq
               (.reg 34 none [3, 4, 5, 6, 188, 189, 190, 191] [
                 ⟨(some 191), none, (.bin .lss false (.t 190) (.t 189))⟩])
               (.seq
                (.cond (.t 191)
                 .skip
                 (.exit 3))
                (.seq
                 (.block 4
                  (.seq
                   (.reg 35 none [3, 4, 5, 6, 25, 188, 189, 190] [
                     ⟨(some 192), none, (.ixL 1 (.t 188) (.t 190))⟩,
                     ⟨(some 193), none, (.ld none (.t 192))⟩,
                     ⟨(some 25), none, (.mv (.t 193))⟩])
                   (.seq
                    (.seq
                     (.reg 36 none [3, 4, 5, 6, 25, 188, 189, 190, 206] [
                       ⟨(some 194), none, (.mv (.t 25))⟩,
                       ⟨(some 195), none, (.call (.k (.clo F_register_Check [])) [(.t 194)])⟩,
                       ⟨(some 196), none, (.mv (.t 25))⟩,
                       ⟨(some 197), none, (.call (.k (.clo F_ref38_Check [])) [(.t 196)])⟩,
                       ⟨(some 198), none, (.bin .neq false (.t 195) (.t 197))⟩,
                       ⟨(some 199), none, (.mv (.t 198))⟩,
                       ⟨(some 200), (some (199, false)), (.mv (.t 25))⟩,
                       ⟨(some 201), (some (199, false)), (.call (.k (.clo F_register_InForce [])) [(.t 200)])⟩,
                       ⟨(some 202), (some (199, false)), (.mv (.t 25))⟩,
                       ⟨(some 203), (some (199, false)), (.call (.k (.clo F_ref38_InForce [])) [(.t 202)])⟩,
                       ⟨(some 204), (some (199, false)), (.call (.k (.clo F_ref28_Ints [])) [(.t 201), (.t 203)])⟩,
                       ⟨(some 205), (some (199, false)), (.un .not (.t 204))⟩,
                       ⟨(some 206), none, (.pick (.t 199) (.k (.v (.bool true))) (.t 205))⟩])
                     (.cond (.t 206)
                      (.seq
                       (.reg 37 none [18] [
                         ⟨(some 18), none, (.mv (.k (.v (.bool false))))⟩])
                       .ret)
                      .skip))
                    (.seq
                     (.reg 38 none [3, 4, 5, 6, 25, 188, 189, 190, 210, 211, 212] [
                       ⟨(some 207), none, (.mv (.t 5))⟩,
                       ⟨(some 208), none, (.mv (.t 5))⟩,
                       ⟨(some 209), none, (.call (.k (.clo F_draw_Mod [])) [(.t 208), (.k (.v (.int .i64 9)))])⟩,
                       ⟨(some 210), none, (.bsl 1 2 [(.t 207), (.t 209)])⟩,
                       ⟨(some 211), none, (.lenL (.t 210))⟩,
                       ⟨(some 212), none, (.mv (.k (.v (.int .i64 0))))⟩])
                     (.block 5
                      (.loop
                       (.seq
                        (.reg 39 none [3, 4, 5, 6, 25, 188, 189, 190, 210, 211, 212, 213] [
                          ⟨(some 213), none, (.bin .lss false (.t 212) (.t 211))⟩])
                        (.seq
                         (.cond (.t 213)
                          .skip
                          (.exit 5))
                         (.seq
                          (.block 6
                           (.seq
                            (.reg 40 none [3, 4, 5, 6, 25, 27, 188, 189, 190, 210, 211, 212] [
                              ⟨(some 214), none, (.ixL 1 (.t 210) (.t 212))⟩,
                              ⟨(some 215), none, (.ld none (.t 214))⟩,
                              ⟨(some 27), none, (.mv (.t 215))⟩])
                            (.seq
                             (.seq
                              (.reg 41 none [3, 4, 5, 6, 25, 27, 188, 189, 190, 210, 211, 212, 219, 220, 221] [
                                ⟨(some 216), none, (.mv (.t 4))⟩,
                                ⟨(some 217), none, (.mv (.t 4))⟩,
                                ⟨(some 218), none, (.call (.k (.clo F_draw_Mod [])) [(.t 217), (.k (.v (.int .i64 9)))])⟩,
                                ⟨(some 219), none, (.bsl 1 2 [(.t 216), (.t 218)])⟩,
                                ⟨(some 220), none, (.lenL (.t 219))⟩,
                                ⟨(some 221), none, (.mv (.k (.v (.int .i64 0))))⟩])
                              (.block 7
                               (.loop
                                (.seq
                                 (.reg 42 none [3, 4, 5, 6, 25, 27, 188, 189, 190, 210, 211, 212, 219, 220, 221, 222] [
                                   ⟨(some 222), none, (.bin .lss false (.t 221) (.t 220))⟩])
                                 (.seq
                                  (.cond (.t 222)
                                   .skip
                                   (.exit 7))
                                  (.seq
                                   (.block 8
                                    (.seq
                                     (.reg 43 none [3, 4, 5, 6, 25, 27, 29, 188, 189, 190, 210, 211, 212, 219, 220, 221] [
                                       ⟨(some 223), none, (.ixL 1 (.t 219) (.t 221))⟩,
                                       ⟨(some 224), none, (.ld none (.t 223))⟩,
                                       ⟨(some 29), none, (.mv (.t 224))⟩])
                                     (.seq
                                      (.seq
                                       (.reg 44 none [3, 4, 5, 6, 25, 27, 29, 188, 189, 190, 210, 211, 212, 219, 220, 221, 229, 230, 231] [
                                         ⟨(some 225), none, (.mv (.t 3))⟩,
                                         ⟨(some 226), none, (.mv (.t 3))⟩,
                                         ⟨(some 227), none, (.call (.k (.clo F_draw_Mod [])) [(.t 226), (.k (.v (.int .i64 3)))])⟩,
                                         ⟨(some 228), none, (.bin .add false (.k (.v (.int .i64 1))) (.t 227))⟩,
                                         ⟨(some 229), none, (.bsl 1 2 [(.t 225), (.t 228)])⟩,
                                         ⟨(some 230), none, (.lenL (.t 229))⟩,
                                         ⟨(some 231), none, (.mv (.k (.v (.int .i64 0))))⟩])
                                       (.block 9
                                        (.loop
                                         (.seq
                                          (.reg 45 none [3, 4, 5, 6, 25, 27, 29, 188, 189, 190, 210, 211, 212, 219, 220, 221, 229, 230, 231, 232] [
                                            ⟨(some 232), none, (.bin .lss false (.t 231) (.t 230))⟩])
                                          (.seq
                                           (.cond (.t 232)
                                            .skip
                                            (.exit 9))
                                           (.seq
                                            (.block 10
                                             (.seq
                                              (.reg 46 none [3, 4, 5, 6, 25, 27, 29, 31, 188, 189, 190, 210, 211, 212, 219, 220, 221, 229, 230, 231] [
                                                ⟨(some 233), none, (.ixL 1 (.t 229) (.t 231))⟩,
                                                ⟨(some 234), none, (.ld none (.t 233))⟩,
                                                ⟨(some 31), none, (.mv (.t 234))⟩])
                                              (.seq
                                               (.reg 47 none [3, 4, 5, 6, 25, 27, 29, 31, 32, 33, 188, 189, 190, 210, 211, 212, 219, 220, 221, 229, 230, 231] [
                                                 ⟨(some 236), none, (.mv (.t 25))⟩,
                                                 ⟨(some 237), none, (.mv (.t 31))⟩,
                                                 ⟨(some 238), none, (.mv (.t 29))⟩,
                                                 ⟨(some 239), none, (.mv (.t 27))⟩,
                                                 ⟨(some 240), none, (.mv (.t 6))⟩,
                                                 ⟨(some 241), none, (.call (.k (.clo F_register_Add [])) [(.t 236), (.t 237), (.t 238), (.t 239), (.t 240)])⟩,
                                                 ⟨(some 235), none, (.mv (.t 241))⟩,
                                                 ⟨(some 242), none, (.ex (.t 235) 0)⟩,
                                                 ⟨(some 243), none, (.ex (.t 235) 1)⟩,
                                                 ⟨(some 32), none, (.mv (.t 242))⟩,
                                                 ⟨(some 33), none, (.mv (.t 243))⟩])
                                               (.seq
                                                (.reg 48 none [3, 4, 5, 6, 25, 27, 29, 32, 33, 34, 35, 188, 189, 190, 210, 211, 212, 219, 220, 221, 229, 230, 231] [
                                                  ⟨(some 245), none, (.mv (.t 25))⟩,
                                                  ⟨(some 246), none, (.mv (.t 31))⟩,
                                                  ⟨(some 247), none, (.mv (.t 29))⟩,
                                                  ⟨(some 248), none, (.mv (.t 27))⟩,
                                                  ⟨(some 249), none, (.mv (.t 6))⟩,
                                                  ⟨(some 250), none, (.call (.k (.clo F_ref38_Add [])) [(.t 245), (.t 246), (.t 247), (.t 248), (.t 249)])⟩,
                                                  ⟨(some 244), none, (.mv (.t 250))⟩,
                                                  ⟨(some 251), none, (.ex (.t 244) 0)⟩,
                                                  ⟨(some 252), none, (.ex (.t 244) 1)⟩,
                                                  ⟨(some 34), none, (.mv (.t 251))⟩,
                                                  ⟨(some 35), none, (.mv (.t 252))⟩])
                                                (.seq
                                                 (.reg 49 none [3, 4, 5, 6, 25, 27, 29, 188, 189, 190, 210, 211, 212, 219, 220, 221, 229, 230, 231, 261] [
                                                   ⟨(some 253), none, (.mv (.t 32))⟩,
                                                   ⟨(some 254), none, (.mv (.t 34))⟩,
                                                   ⟨(some 255), none, (.call (.k (.clo F_ref38_Same [])) [(.t 253), (.t 254)])⟩,
                                                   ⟨(some 256), none, (.un .not (.t 255))⟩,
                                                   ⟨(some 257), none, (.mv (.t 256))⟩,
                                                   ⟨(some 258), (some (257, false)), (.mv (.t 33))⟩,
                                                   ⟨(some 259), (some (257, false)), (.mv (.t 35))⟩,
                                                   ⟨(some 260), (some (257, false)), (.bin .neq false (.t 258) (.t 259))⟩,
                                                   ⟨(some 261), none, (.pick (.t 257) (.k (.v (.bool true))) (.t 260))⟩])
                                                 (.cond (.t 261)
                                                  (.seq
                                                   (.reg 50 none [18] [
                                                     ⟨(some 18), none, (.mv (.k (.v (.bool false))))⟩])
                                                   .ret)
                                                  .skip))))))
                                            (.reg 51 none [3, 4, 5, 6, 25, 27, 29, 188, 189, 190, 210, 211, 212, 219, 220, 221, 229, 230, 231] [
                                              ⟨(some 262), none, (.bin .add false (.t 231) (.k (.v (.int .i64 1))))⟩,
                                              ⟨(some 231), none, (.mv (.t 262))⟩])))))))
                                      (.seq
                                       (.reg 52 none [3, 4, 5, 6, 25, 27, 29, 36, 37, 188, 189, 190, 210, 211, 212, 219, 220, 221] [
                                         ⟨(some 264), none, (.mv (.t 25))⟩,
                                         ⟨(some 265), none, (.mv (.t 29))⟩,
                                         ⟨(some 266), none, (.call (.k (.clo F_register_History [])) [(.t 264), (.t 265)])⟩,
                                         ⟨(some 263), none, (.mv (.t 266))⟩,
                                         ⟨(some 267), none, (.ex (.t 263) 0)⟩,
                                         ⟨(some 268), none, (.ex (.t 263) 1)⟩,
                                         ⟨(some 36), none, (.mv (.t 267))⟩,
                                         ⟨(some 37), none, (.mv (.t 268))⟩])
                                       (.seq
                                        (.reg 53 none [3, 4, 5, 6, 25, 27, 36, 37, 38, 39, 188, 189, 190, 210, 211, 212, 219, 220, 221] [
                                          ⟨(some 270), none, (.mv (.t 25))⟩,
                                          ⟨(some 271), none, (.mv (.t 29))⟩,
                                          ⟨(some 272), none, (.call (.k (.clo F_ref38_History [])) [(.t 270), (.t 271)])⟩,
                                          ⟨(some 269), none, (.mv (.t 272))⟩,
                                          ⟨(some 273), none, (.ex (.t 269) 0)⟩,
                                          ⟨(some 274), none, (.ex (.t 269) 1)⟩,
                                          ⟨(some 38), none, (.mv (.t 273))⟩,
                                          ⟨(some 39), none, (.mv (.t 274))⟩])
                                        (.seq
                                         (.reg 54 none [3, 4, 5, 6, 25, 27, 188, 189, 190, 210, 211, 212, 219, 220, 221, 283] [
                                           ⟨(some 275), none, (.mv (.t 36))⟩,
                                           ⟨(some 276), none, (.mv (.t 38))⟩,
                                           ⟨(some 277), none, (.call (.k (.clo F_ref28_Ints [])) [(.t 275), (.t 276)])⟩,
                                           ⟨(some 278), none, (.un .not (.t 277))⟩,
                                           ⟨(some 279), none, (.mv (.t 278))⟩,
                                           ⟨(some 280), (some (279, false)), (.mv (.t 37))⟩,
                                           ⟨(some 281), (some (279, false)), (.mv (.t 39))⟩,
                                           ⟨(some 282), (some (279, false)), (.bin .neq false (.t 280) (.t 281))⟩,
                                           ⟨(some 283), none, (.pick (.t 279) (.k (.v (.bool true))) (.t 282))⟩])
                                         (.cond (.t 283)
                                          (.seq
                                           (.reg 55 none [18] [
                                             ⟨(some 18), none, (.mv (.k (.v (.bool false))))⟩])
                                           .ret)
                                          .skip)))))))
                                   (.reg 56 none [3, 4, 5, 6, 25, 27, 188, 189, 190, 210, 211, 212, 219, 220, 221] [
                                     ⟨(some 284), none, (.bin .add false (.t 221) (.k (.v (.int .i64 1))))⟩,
                                     ⟨(some 221), none, (.mv (.t 284))⟩])))))))
                             (.seq
                              (.reg 57 none [3, 4, 5, 6, 25, 188, 189, 190, 210, 211, 212, 291] [
                                ⟨(some 285), none, (.mv (.t 25))⟩,
                                ⟨(some 286), none, (.mv (.t 27))⟩,
                                ⟨(some 287), none, (.call (.k (.clo F_register_Find [])) [(.t 285), (.t 286)])⟩,
                                ⟨(some 288), none, (.mv (.t 25))⟩,
                                ⟨(some 289), none, (.mv (.t 27))⟩,
                                ⟨(some 290), none, (.call (.k (.clo F_ref38_Find [])) [(.t 288), (.t 289)])⟩,
                                ⟨(some 291), none, (.bin .neq false (.t 287) (.t 290))⟩])
                              (.cond (.t 291)
                               (.seq
                                (.reg 58 none [18] [
                                  ⟨(some 18), none, (.mv (.k (.v (.bool false))))⟩])
                                .ret)
                               .skip)))))
                          (.reg 59 none [3, 4, 5, 6, 25, 188, 189, 190, 210, 211, 212] [
                            ⟨(some 292), none, (.bin .add false (.t 212) (.k (.v (.int .i64 1))))⟩,
                            ⟨(some 212), none, (.mv (.t 292))⟩]))))))))))
                 (.reg 60 none [3, 4, 5, 6, 188, 189, 190] [
                   ⟨(some 293), none, (.bin .add false (.t 190) (.k (.v (.int .i64 1))))⟩,
                   ⟨(some 190), none, (.mv (.t 293))⟩])))))))
           (.seq
            (.reg 61 none [18] [
              ⟨(some 294), none, (.call (.k (.clo F_law38_awake [])) [])⟩,
              ⟨(some 18), none, (.mv (.t 294))⟩])
            .ret))))))))))
theorem fn_law38_RegisterAnswers : FnIR Try.prog F_law38_RegisterAnswers 295 [(0, [0, 2, 3, 4, 5, 6, 7, 8, 10]), (1, [0, 2, 3, 4, 5, 6, 7, 8, 10, 58]), (2, [18]), (3, [0, 2, 3, 4, 5, 6, 7, 8, 10, 61, 62]), (4, [0, 2, 3, 4, 5, 6, 7, 8, 10, 61, 62, 63]), (5, [0, 2, 3, 4, 5, 6, 7, 8, 10, 19, 61, 62]), (6, [0, 2, 3, 4, 5, 6, 7, 8, 10, 61, 62, 71]), (7, [18]), (8, [0, 2, 3, 4, 5, 6, 7, 8, 10, 61, 62]), (9, [0, 2, 3, 4, 5, 6, 8, 10, 20]), (10, [0, 2, 3, 4, 5, 6, 8, 10, 21]), (11, [0, 2, 3, 4, 5, 6, 8, 10, 21, 22]), (12, [0, 2, 3, 4, 5, 6, 8, 10, 21, 22, 83]), (13, [0, 2, 3, 4, 5, 6, 8, 10, 21, 22, 23]), (14, [0, 2, 3, 4, 5, 6, 10, 21, 22, 23, 89]), (15, [0, 2, 3, 4, 5, 6, 10, 21, 22, 23]), (16, [0, 2, 3, 4, 5, 6, 10, 21, 22]), (17, [0, 2, 3, 4, 5, 6, 10, 21, 22, 23, 89, 107]), (18, [0, 2, 3, 4, 5, 6, 10, 21, 22]), (19, [0, 2, 3, 4, 5, 6, 10, 21, 22, 23, 89, 117]), (20, [0, 2, 3, 4, 5, 6, 10, 21, 22]), (21, [0, 2, 3, 4, 5, 6, 10, 21, 22, 23, 89, 124]), (22, [0, 2, 3, 4, 5, 6, 10, 21, 22]), (23, [0, 2, 3, 4, 5, 6, 10, 21, 22, 23, 89, 134]), (24, [0, 2, 3, 4, 5, 6, 10, 21, 22, 23]), (25, [0, 2, 3, 4, 5, 6, 10, 21, 22]), (26, [0, 2, 3, 4, 5, 6, 10, 21, 22, 23, 89, 152]), (27, [0, 2, 3, 4, 5, 6, 10, 21, 22, 23]), (28, [0, 2, 3, 4, 5, 6, 10, 21, 22]), (29, [0, 2, 3, 4, 5, 6, 10, 21, 22, 23, 169]), (30, [0, 2, 3, 4, 5, 6, 10, 21, 22]), (31, [2, 3, 4, 5, 6, 21, 22, 184]), (32, [18]), (33, [3, 4, 5, 6, 188, 189, 190]), (34, [3, 4, 5, 6, 188, 189, 190, 191]), (35, [3, 4, 5, 6, 25, 188, 189, 190]), (36, [3, 4, 5, 6, 25, 188, 189, 190, 206]), (37, [18]), (38, [3, 4, 5, 6, 25, 188, 189, 190, 210, 211, 212]), (39, [3, 4, 5, 6, 25, 188, 189, 190, 210, 211, 212, 213]), (40, [3, 4, 5, 6, 25, 27, 188, 189, 190, 210, 211, 212]), (41, [3, 4, 5, 6, 25, 27, 188, 189, 190, 210, 211, 212, 219, 220, 221]), (42, [3, 4, 5, 6, 25, 27, 188, 189, 190, 210, 211, 212, 219, 220, 221, 222]), (43, [3, 4, 5, 6, 25, 27, 29, 188, 189, 190, 210, 211, 212, 219, 220, 221]), (44, [3, 4, 5, 6, 25, 27, 29, 188, 189, 190, 210, 211, 212, 219, 220, 221, 229, 230, 231]), (45, [3, 4, 5, 6, 25, 27, 29, 188, 189, 190, 210, 211, 212, 219, 220, 221, 229, 230, 231, 232]), (46, [3, 4, 5, 6, 25, 27, 29, 31, 188, 189, 190, 210, 211, 212, 219, 220, 221, 229, 230, 231]), (47, [3, 4, 5, 6, 25, 27, 29, 31, 32, 33, 188, 189, 190, 210, 211, 212, 219, 220, 221, 229, 230, 231]), (48, [3, 4, 5, 6, 25, 27, 29, 32, 33, 34, 35, 188, 189, 190, 210, 211, 212, 219, 220, 221, 229, 230, 231]), (49, [3, 4, 5, 6, 25, 27, 29, 188, 189, 190, 210, 211, 212, 219, 220, 221, 229, 230, 231, 261]), (50, [18]), (51, [3, 4, 5, 6, 25, 27, 29, 188, 189, 190, 210, 211, 212, 219, 220, 221, 229, 230, 231]), (52, [3, 4, 5, 6, 25, 27, 29, 36, 37, 188, 189, 190, 210, 211, 212, 219, 220, 221]), (53, [3, 4, 5, 6, 25, 27, 36, 37, 38, 39, 188, 189, 190, 210, 211, 212, 219, 220, 221]), (54, [3, 4, 5, 6, 25, 27, 188, 189, 190, 210, 211, 212, 219, 220, 221, 283]), (55, [18]), (56, [3, 4, 5, 6, 25, 27, 188, 189, 190, 210, 211, 212, 219, 220, 221]), (57, [3, 4, 5, 6, 25, 188, 189, 190, 210, 211, 212, 291]), (58, [18]), (59, [3, 4, 5, 6, 25, 188, 189, 190, 210, 211, 212]), (60, [3, 4, 5, 6, 188, 189, 190]), (61, [18])] ir_law38_RegisterAnswers [(.tmp 18)] :=
  ⟨Try.f5, _, Try.func5, rfl, by kernel_rfl, rfl, by kernel_rfl, by kernel_rfl⟩

/-- dataenclave/dataenclavelaw38.RegisterForce -/
def ir_law38_RegisterForce : RC :=
  (.seq
   (.reg 0 none [0] [
     ⟨(some 2), none, (.mv (.k (.v (.bool false))))⟩])
   (.seq
    (.reg 1 none [3] [
      ⟨(some 14), none, (.mv (.t 0))⟩,
      ⟨(some 15), none, (.call (.k (.clo F_draw_New [])) [(.t 14)])⟩,
      ⟨(some 16), none, (.call (.k (.clo F_made_Register [])) [(.t 15), (.k (.v (.int .i64 8)))])⟩,
      ⟨(some 3), none, (.mv (.t 16))⟩])
    (.seq
     (.reg 2 none [3, 4] [
       ⟨(some 17), none, (.mv (.t 3))⟩,
       ⟨(some 18), none, (.call (.k (.clo F_register_InForce [])) [(.t 17)])⟩,
       ⟨(some 4), none, (.mv (.t 18))⟩])
     (.seq
      (.seq
       (.reg 3 none [3, 4, 19, 20, 21] [
         ⟨(some 19), none, (.mv (.t 3))⟩,
         ⟨(some 20), none, (.lenL (.t 19))⟩,
         ⟨(some 21), none, (.mv (.k (.v (.int .i64 0))))⟩])
       (.block 0
        (.loop
         (.seq
          (.reg 4 none [3, 4, 19, 20, 21, 22] [
            ⟨(some 22), none, (.bin .lss false (.t 21) (.t 20))⟩])
          (.seq
           (.cond (.t 22)
            .skip
            (.exit 0))
           (.seq
            (.block 1
             (.seq
              (.reg 5 none [3, 4, 6, 19, 20, 21] [
                ⟨(some 23), none, (.ixL 7 (.t 19) (.t 21))⟩,
                ⟨(some 24), none, (.ld (some 7) (.t 23))⟩,
                ⟨(some 6), none, (.new (.agg [(.v (.int .i64 0)), (.v (.int .u64 0)), (.v (.int .i64 0)), (.v (.int .i64 0)), (.v (.int .i64 0)), (.v (.string ⟨#[]⟩)), (.v (.int .u64 0))]))⟩,
                ⟨none, none, (.st 7 (.t 6) (.t 24))⟩])
              (.seq
               (.reg 6 none [3, 4, 6, 7, 19, 20, 21] [
                 ⟨(some 25), none, (.fa 2 (.t 6))⟩,
                 ⟨(some 26), none, (.ld none (.t 25))⟩,
                 ⟨(some 27), none, (.bin .neq false (.t 26) (.k (.v (.int .i64 2))))⟩,
                 ⟨(some 7), none, (.mv (.t 27))⟩])
               (.seq
                (.seq
                 (.reg 7 none [3, 4, 6, 7, 19, 20, 21, 28, 29, 30] [
                   ⟨(some 28), none, (.mv (.t 3))⟩,
                   ⟨(some 29), none, (.lenL (.t 28))⟩,
                   ⟨(some 30), none, (.mv (.k (.v (.int .i64 0))))⟩])
                 (.block 2
                  (.loop
                   (.seq
                    (.reg 8 none [3, 4, 6, 7, 19, 20, 21, 28, 29, 30, 31] [
                      ⟨(some 31), none, (.bin .lss false (.t 30) (.t 29))⟩])
                    (.seq
                     (.cond (.t 31)
                      .skip
                      (.exit 2))
                     (.seq
                      (.block 3
                       (.seq
                        (.reg 9 none [3, 4, 6, 7, 9, 19, 20, 21, 28, 29, 30] [
                          ⟨(some 32), none, (.ixL 7 (.t 28) (.t 30))⟩,
                          ⟨(some 33), none, (.ld (some 7) (.t 32))⟩,
                          ⟨(some 9), none, (.new (.agg [(.v (.int .i64 0)), (.v (.int .u64 0)), (.v (.int .i64 0)), (.v (.int .i64 0)), (.v (.int .i64 0)), (.v (.string ⟨#[]⟩)), (.v (.int .u64 0))]))⟩,
                          ⟨none, none, (.st 7 (.t 9) (.t 33))⟩])
                        (.reg 10 none [3, 4, 6, 7, 19, 20, 21, 28, 29, 30] [
                          ⟨(some 34), none, (.mv (.t 7))⟩,
                          ⟨(some 35), none, (.mv (.t 34))⟩,
                          ⟨(some 36), (some (35, true)), (.fa 2 (.t 9))⟩,
                          ⟨(some 37), (some (35, true)), (.ld none (.t 36))⟩,
                          ⟨(some 38), (some (35, true)), (.bin .eql false (.t 37) (.k (.v (.int .i64 1))))⟩,
                          ⟨(some 39), (some (35, true)), (.mv (.t 38))⟩,
                          ⟨(some 40), (some (39, false)), (.fa 3 (.t 9))⟩,
                          ⟨(some 41), (some (39, false)), (.ld none (.t 40))⟩,
                          ⟨(some 42), (some (39, false)), (.fa 0 (.t 6))⟩,
                          ⟨(some 43), (some (39, false)), (.ld none (.t 42))⟩,
                          ⟨(some 44), (some (39, false)), (.bin .neq false (.t 41) (.t 43))⟩,
                          ⟨(some 45), (some (35, true)), (.pick (.t 39) (.k (.v (.bool true))) (.t 44))⟩,
                          ⟨(some 46), none, (.pick (.t 35) (.t 45) (.k (.v (.bool false))))⟩,
                          ⟨(some 7), none, (.mv (.t 46))⟩])))
                      (.reg 11 none [3, 4, 6, 7, 19, 20, 21, 28, 29, 30] [
                        ⟨(some 47), none, (.bin .add false (.t 30) (.k (.v (.int .i64 1))))⟩,
                        ⟨(some 30), none, (.mv (.t 47))⟩])))))))
                (.seq
                 (.reg 12 none [3, 4, 6, 7, 10, 19, 20, 21] [
                   ⟨(some 10), none, (.mv (.k (.v (.bool false))))⟩])
                 (.seq
                  (.seq
                   (.reg 13 none [3, 4, 6, 7, 10, 19, 20, 21, 48, 49, 50] [
                     ⟨(some 48), none, (.mv (.t 4))⟩,
                     ⟨(some 49), none, (.lenL (.t 48))⟩,
                     ⟨(some 50), none, (.mv (.k (.v (.int .i64 0))))⟩])
                   (.block 4
                    (.loop
                     (.seq
                      (.reg 14 none [3, 4, 6, 7, 10, 19, 20, 21, 48, 49, 50, 51] [
                        ⟨(some 51), none, (.bin .lss false (.t 50) (.t 49))⟩])
                      (.seq
                       (.cond (.t 51)
                        .skip
                        (.exit 4))
                       (.seq
                        (.block 5
                         (.seq
                          (.reg 15 none [3, 4, 6, 7, 10, 12, 19, 20, 21, 48, 49, 50] [
                            ⟨(some 52), none, (.ixL 1 (.t 48) (.t 50))⟩,
                            ⟨(some 53), none, (.ld none (.t 52))⟩,
                            ⟨(some 12), none, (.mv (.t 53))⟩])
                          (.reg 16 none [3, 4, 6, 7, 10, 19, 20, 21, 48, 49, 50] [
                            ⟨(some 54), none, (.mv (.t 10))⟩,
                            ⟨(some 55), none, (.mv (.t 54))⟩,
                            ⟨(some 56), (some (55, false)), (.mv (.t 12))⟩,
                            ⟨(some 57), (some (55, false)), (.fa 0 (.t 6))⟩,
                            ⟨(some 58), (some (55, false)), (.ld none (.t 57))⟩,
                            ⟨(some 59), (some (55, false)), (.bin .eql false (.t 56) (.t 58))⟩,
                            ⟨(some 60), none, (.pick (.t 55) (.k (.v (.bool true))) (.t 59))⟩,
                            ⟨(some 10), none, (.mv (.t 60))⟩])))
                        (.reg 17 none [3, 4, 6, 7, 10, 19, 20, 21, 48, 49, 50] [
                          ⟨(some 61), none, (.bin .add false (.t 50) (.k (.v (.int .i64 1))))⟩,
                          ⟨(some 50), none, (.mv (.t 61))⟩])))))))
                  (.seq
                   (.reg 18 (some [0, 0, 3, 7, 15, 31, 63, 127, 255, 255, 767, 2047, 255, 4351, 16383, 32767, 65535]) [3, 4, 19, 20, 21, 78] [
                     ⟨(some 62), none, (.mv (.t 10))⟩,
                     ⟨(some 63), none, (.mv (.t 7))⟩,
                     ⟨(some 64), none, (.bin .neq true (.t 62) (.t 63))⟩,
                     ⟨(some 65), none, (.mv (.t 64))⟩,
                     ⟨(some 66), (some (65, false)), (.fa 4 (.t 6))⟩,
                     ⟨(some 67), (some (65, false)), (.ld none (.t 66))⟩,
                     ⟨(some 68), (some (65, false)), (.bin .gtr false (.t 67) (.k (.v (.int .i64 0))))⟩,
                     ⟨(some 69), (some (65, false)), (.mv (.t 68))⟩,
                     ⟨(some 70), (some (69, true)), (.mv (.t 3))⟩,
                     ⟨(some 71), (some (69, true)), (.fa 4 (.t 6))⟩,
                     ⟨(some 72), (some (69, true)), (.ld none (.t 71))⟩,
                     ⟨(some 73), (some (69, true)), (.call (.k (.clo F_register_Find [])) [(.t 70), (.t 72)])⟩,
                     ⟨(some 74), (some (69, true)), (.fa 0 (.t 6))⟩,
                     ⟨(some 75), (some (69, true)), (.ld none (.t 74))⟩,
                     ⟨(some 76), (some (69, true)), (.bin .neq false (.t 73) (.t 75))⟩,
                     ⟨(some 77), (some (65, false)), (.pick (.t 69) (.t 76) (.k (.v (.bool false))))⟩,
                     ⟨(some 78), none, (.pick (.t 65) (.k (.v (.bool true))) (.t 77))⟩])
                   (.cond (.t 78)
                    (.seq
                     (.reg 19 none [2] [
                       ⟨(some 2), none, (.mv (.k (.v (.bool false))))⟩])
                     .ret)
                    .skip))))))))
            (.reg 20 none [3, 4, 19, 20, 21] [
              ⟨(some 79), none, (.bin .add false (.t 21) (.k (.v (.int .i64 1))))⟩,
              ⟨(some 21), none, (.mv (.t 79))⟩])))))))
      (.seq
       (.seq
        (.reg 21 none [4, 13] [
          ⟨(some 13), none, (.mv (.k (.v (.int .i64 1))))⟩])
        (.block 6
         (.loop
          (.seq
           (.seq
            (.reg 22 none [4, 13, 83] [
              ⟨(some 80), none, (.mv (.t 13))⟩,
              ⟨(some 81), none, (.mv (.t 4))⟩,
              ⟨(some 82), none, (.lenL (.t 81))⟩,
              ⟨(some 83), none, (.bin .lss false (.t 80) (.t 82))⟩])
            (.cond (.t 83)
             .skip
             (.exit 6)))
           (.seq
            (.block 7
             (.seq
              (.reg 24 (some [0, 0, 3, 7, 0, 0, 32, 112, 240, 511]) [4, 13, 95] [
                ⟨(some 86), none, (.mv (.t 4))⟩,
                ⟨(some 87), none, (.mv (.t 13))⟩,
                ⟨(some 88), none, (.ixL 1 (.t 86) (.t 87))⟩,
                ⟨(some 89), none, (.ld none (.t 88))⟩,
                ⟨(some 90), none, (.mv (.t 4))⟩,
                ⟨(some 91), none, (.mv (.t 13))⟩,
                ⟨(some 92), none, (.bin .sub false (.t 91) (.k (.v (.int .i64 1))))⟩,
                ⟨(some 93), none, (.ixL 1 (.t 90) (.t 92))⟩,
                ⟨(some 94), none, (.ld none (.t 93))⟩,
                ⟨(some 95), none, (.bin .leq false (.t 89) (.t 94))⟩])
              (.cond (.t 95)
               (.seq
                (.reg 25 none [2] [
                  ⟨(some 2), none, (.mv (.k (.v (.bool false))))⟩])
                .ret)
               .skip)))
            (.reg 23 none [4, 13] [
              ⟨(some 84), none, (.mv (.t 13))⟩,
              ⟨(some 85), none, (.bin .add false (.t 84) (.k (.v (.int .i64 1))))⟩,
              ⟨(some 13), none, (.mv (.t 85))⟩]))))))
       (.seq
        (.reg 26 none [2] [
          ⟨(some 96), none, (.call (.k (.clo F_law38_awake [])) [])⟩,
          ⟨(some 2), none, (.mv (.t 96))⟩])
        .ret))))))
theorem fn_law38_RegisterForce : FnIR Try.prog F_law38_RegisterForce 97 [(0, [0]), (1, [3]), (2, [3, 4]), (3, [3, 4, 19, 20, 21]), (4, [3, 4, 19, 20, 21, 22]), (5, [3, 4, 6, 19, 20, 21]), (6, [3, 4, 6, 7, 19, 20, 21]), (7, [3, 4, 6, 7, 19, 20, 21, 28, 29, 30]), (8, [3, 4, 6, 7, 19, 20, 21, 28, 29, 30, 31]), (9, [3, 4, 6, 7, 9, 19, 20, 21, 28, 29, 30]), (10, [3, 4, 6, 7, 19, 20, 21, 28, 29, 30]), (11, [3, 4, 6, 7, 19, 20, 21, 28, 29, 30]), (12, [3, 4, 6, 7, 10, 19, 20, 21]), (13, [3, 4, 6, 7, 10, 19, 20, 21, 48, 49, 50]), (14, [3, 4, 6, 7, 10, 19, 20, 21, 48, 49, 50, 51]), (15, [3, 4, 6, 7, 10, 12, 19, 20, 21, 48, 49, 50]), (16, [3, 4, 6, 7, 10, 19, 20, 21, 48, 49, 50]), (17, [3, 4, 6, 7, 10, 19, 20, 21, 48, 49, 50]), (18, [3, 4, 19, 20, 21, 78]), (19, [2]), (20, [3, 4, 19, 20, 21]), (21, [4, 13]), (22, [4, 13, 83]), (23, [4, 13]), (24, [4, 13, 95]), (25, [2]), (26, [2])] ir_law38_RegisterForce [(.tmp 2)] :=
  ⟨Try.f6, _, Try.func6, rfl, by kernel_rfl, rfl, by kernel_rfl, by kernel_rfl⟩

/-- dataenclave/dataenclavelaw38.RegisterRefuses -/
def ir_law38_RegisterRefuses : RC :=
  (.seq
   (.reg 0 none [0, 1, 2] [
     ⟨(some 6), none, (.mv (.k (.v (.bool false))))⟩])
   (.seq
    (.reg 1 none [1, 2, 7] [
      ⟨(some 20), none, (.mv (.t 0))⟩,
      ⟨(some 21), none, (.call (.k (.clo F_draw_New [])) [(.t 20)])⟩,
      ⟨(some 22), none, (.call (.k (.clo F_made_Register [])) [(.t 21), (.k (.v (.int .i64 8)))])⟩,
      ⟨(some 7), none, (.mv (.t 22))⟩])
    (.seq
     (.reg 2 none [7, 8, 9] [
       ⟨(some 23), none, (.mv (.t 1))⟩,
       ⟨(some 24), none, (.cvI .i64 (.t 23))⟩,
       ⟨(some 25), none, (.bin .rem false (.t 24) (.k (.v (.int .i64 10))))⟩,
       ⟨(some 26), none, (.mv (.t 2))⟩,
       ⟨(some 27), none, (.cvI .i64 (.t 26))⟩,
       ⟨(some 28), none, (.bin .rem false (.t 27) (.k (.v (.int .i64 9))))⟩,
       ⟨(some 29), none, (.bin .add false (.k (.v (.int .i64 1))) (.t 28))⟩,
       ⟨(some 8), none, (.mv (.t 25))⟩,
       ⟨(some 9), none, (.mv (.t 29))⟩])
     (.seq
      (.reg 3 none [7, 8, 9, 10] [
        ⟨(some 10), none, (.mv (.k (.v (.bool false))))⟩])
      (.seq
       (.seq
        (.reg 4 none [7, 8, 9, 10, 31, 32, 33] [
          ⟨(some 30), none, (.mv (.t 7))⟩,
          ⟨(some 31), none, (.call (.k (.clo F_register_InForce [])) [(.t 30)])⟩,
          ⟨(some 32), none, (.lenL (.t 31))⟩,
          ⟨(some 33), none, (.mv (.k (.v (.int .i64 0))))⟩])
        (.block 0
         (.loop
          (.seq
           (.reg 5 none [7, 8, 9, 10, 31, 32, 33, 34] [
             ⟨(some 34), none, (.bin .lss false (.t 33) (.t 32))⟩])
           (.seq
            (.cond (.t 34)
             .skip
             (.exit 0))
            (.seq
             (.block 1
              (.seq
               (.reg 6 none [7, 8, 9, 10, 12, 31, 32, 33] [
                 ⟨(some 35), none, (.ixL 1 (.t 31) (.t 33))⟩,
                 ⟨(some 36), none, (.ld none (.t 35))⟩,
                 ⟨(some 12), none, (.mv (.t 36))⟩])
               (.reg 7 none [7, 8, 9, 10, 31, 32, 33] [
                 ⟨(some 37), none, (.mv (.t 10))⟩,
                 ⟨(some 38), none, (.mv (.t 37))⟩,
                 ⟨(some 39), (some (38, false)), (.mv (.t 12))⟩,
                 ⟨(some 40), (some (38, false)), (.mv (.t 8))⟩,
                 ⟨(some 41), (some (38, false)), (.bin .eql false (.t 39) (.t 40))⟩,
                 ⟨(some 42), none, (.pick (.t 38) (.k (.v (.bool true))) (.t 41))⟩,
                 ⟨(some 10), none, (.mv (.t 42))⟩])))
             (.reg 8 none [7, 8, 9, 10, 31, 32, 33] [
               ⟨(some 43), none, (.bin .add false (.t 33) (.k (.v (.int .i64 1))))⟩,
               ⟨(some 33), none, (.mv (.t 43))⟩])))))))
       (.seq
        (.reg 9 none [7, 8, 9, 10, 13] [
          ⟨(some 44), none, (.mv (.t 7))⟩,
          ⟨(some 45), none, (.mv (.t 9))⟩,
          ⟨(some 46), none, (.call (.k (.clo F_register_Find [])) [(.t 44), (.t 45)])⟩,
          ⟨(some 47), none, (.bin .gtr false (.t 46) (.k (.v (.int .i64 0))))⟩,
          ⟨(some 13), none, (.mv (.t 47))⟩])
        (.seq
         (.reg 10 none [7, 8, 9, 10, 13, 15] [
           ⟨(some 49), none, (.mv (.t 7))⟩,
           ⟨(some 50), none, (.mv (.t 9))⟩,
           ⟨(some 51), none, (.call (.k (.clo F_register_Add [])) [(.t 49), (.k (.v (.int .i64 1))), (.k (.v (.int .i64 0))), (.t 50), (.k (.v (.string ⟨#[116]⟩)))])⟩,
           ⟨(some 48), none, (.mv (.t 51))⟩,
           ⟨(some 52), none, (.ex (.t 48) 0)⟩,
           ⟨(some 53), none, (.ex (.t 48) 1)⟩,
           ⟨(some 14), none, (.mv (.t 52))⟩,
           ⟨(some 15), none, (.mv (.t 53))⟩])
         (.seq
          (.reg 11 none [7, 8, 9, 10, 13, 15, 17] [
            ⟨(some 55), none, (.mv (.t 7))⟩,
            ⟨(some 56), none, (.mv (.t 8))⟩,
            ⟨(some 57), none, (.call (.k (.clo F_register_Add [])) [(.t 55), (.k (.v (.int .i64 2))), (.t 56), (.k (.v (.int .i64 0))), (.k (.v (.string ⟨#[]⟩)))])⟩,
            ⟨(some 54), none, (.mv (.t 57))⟩,
            ⟨(some 58), none, (.ex (.t 54) 0)⟩,
            ⟨(some 59), none, (.ex (.t 54) 1)⟩,
            ⟨(some 16), none, (.mv (.t 58))⟩,
            ⟨(some 17), none, (.mv (.t 59))⟩])
          (.seq
           (.reg 12 none [10, 13, 15, 17, 19] [
             ⟨(some 61), none, (.mv (.t 7))⟩,
             ⟨(some 62), none, (.mv (.t 8))⟩,
             ⟨(some 63), none, (.mv (.t 9))⟩,
             ⟨(some 64), none, (.call (.k (.clo F_register_Add [])) [(.t 61), (.k (.v (.int .i64 3))), (.t 62), (.t 63), (.k (.v (.string ⟨#[116]⟩)))])⟩,
             ⟨(some 60), none, (.mv (.t 64))⟩,
             ⟨(some 65), none, (.ex (.t 60) 0)⟩,
             ⟨(some 66), none, (.ex (.t 60) 1)⟩,
             ⟨(some 18), none, (.mv (.t 65))⟩,
             ⟨(some 19), none, (.mv (.t 66))⟩])
           (.seq
            (.reg 13 none [6] [
              ⟨(some 67), none, (.mv (.t 15))⟩,
              ⟨(some 68), none, (.bin .eql false (.t 67) (.k (.v (.int .i64 0))))⟩,
              ⟨(some 69), none, (.mv (.t 13))⟩,
              ⟨(some 70), none, (.un .not (.t 69))⟩,
              ⟨(some 71), none, (.bin .eql true (.t 68) (.t 70))⟩,
              ⟨(some 72), none, (.mv (.t 71))⟩,
              ⟨(some 73), (some (72, true)), (.mv (.t 17))⟩,
              ⟨(some 74), (some (72, true)), (.bin .eql false (.t 73) (.k (.v (.int .i64 0))))⟩,
              ⟨(some 75), (some (72, true)), (.mv (.t 10))⟩,
              ⟨(some 76), (some (72, true)), (.bin .eql true (.t 74) (.t 75))⟩,
              ⟨(some 77), none, (.pick (.t 72) (.t 76) (.k (.v (.bool false))))⟩,
              ⟨(some 78), none, (.mv (.t 77))⟩,
              ⟨(some 79), (some (78, true)), (.mv (.t 19))⟩,
              ⟨(some 80), (some (78, true)), (.bin .eql false (.t 79) (.k (.v (.int .i64 0))))⟩,
              ⟨(some 81), (some (78, true)), (.mv (.t 10))⟩,
              ⟨(some 82), (some (78, true)), (.mv (.t 81))⟩,
              ⟨(some 83), (some (82, true)), (.mv (.t 13))⟩,
              ⟨(some 84), (some (82, true)), (.un .not (.t 83))⟩,
              ⟨(some 85), (some (78, true)), (.pick (.t 82) (.t 84) (.k (.v (.bool false))))⟩,
              ⟨(some 86), (some (78, true)), (.bin .eql true (.t 80) (.t 85))⟩,
              ⟨(some 87), none, (.pick (.t 78) (.t 86) (.k (.v (.bool false))))⟩,
              ⟨(some 88), none, (.mv (.t 87))⟩,
              ⟨(some 89), (some (88, true)), (.mv (.t 10))⟩,
              ⟨(some 90), (some (88, true)), (.mv (.t 89))⟩,
              ⟨(some 91), (some (90, false)), (.mv (.t 17))⟩,
              ⟨(some 92), (some (90, false)), (.bin .eql false (.t 91) (.k (.v (.int .i64 56))))⟩,
              ⟨(some 93), (some (90, false)), (.mv (.t 92))⟩,
              ⟨(some 94), (some (93, true)), (.mv (.t 19))⟩,
              ⟨(some 95), (some (93, true)), (.bin .eql false (.t 94) (.k (.v (.int .i64 56))))⟩,
              ⟨(some 96), (some (90, false)), (.pick (.t 93) (.t 95) (.k (.v (.bool false))))⟩,
              ⟨(some 97), (some (88, true)), (.pick (.t 90) (.k (.v (.bool true))) (.t 96))⟩,
              ⟨(some 98), none, (.pick (.t 88) (.t 97) (.k (.v (.bool false))))⟩,
              ⟨(some 99), none, (.mv (.t 98))⟩,
              ⟨(some 100), (some (99, true)), (.call (.k (.clo F_law38_awake [])) [])⟩,
              ⟨(some 101), none, (.pick (.t 99) (.t 100) (.k (.v (.bool false))))⟩,
              ⟨(some 6), none, (.mv (.t 101))⟩])
            .ret))))))))))
theorem fn_law38_RegisterRefuses : FnIR Try.prog F_law38_RegisterRefuses 102 [(0, [0, 1, 2]), (1, [1, 2, 7]), (2, [7, 8, 9]), (3, [7, 8, 9, 10]), (4, [7, 8, 9, 10, 31, 32, 33]), (5, [7, 8, 9, 10, 31, 32, 33, 34]), (6, [7, 8, 9, 10, 12, 31, 32, 33]), (7, [7, 8, 9, 10, 31, 32, 33]), (8, [7, 8, 9, 10, 31, 32, 33]), (9, [7, 8, 9, 10, 13]), (10, [7, 8, 9, 10, 13, 15]), (11, [7, 8, 9, 10, 13, 15, 17]), (12, [10, 13, 15, 17, 19]), (13, [6])] ir_law38_RegisterRefuses [(.tmp 6)] :=
  ⟨Try.f7, _, Try.func7, rfl, by kernel_rfl, rfl, by kernel_rfl, by kernel_rfl⟩

/-- dataenclave/dataenclavelaw38.awake -/
def ir_law38_awake : RC :=
  (.seq
   (.reg 0 none [] [
     ⟨(some 0), none, (.mv (.k (.v (.bool false))))⟩])
   (.seq
    (.reg 1 none [1, 2] [
      ⟨(some 7), none, (.call (.k (.clo F_register_Add [])) [(.k (.v (.slice none 0 0))), (.k (.v (.int .i64 1))), (.k (.v (.int .i64 0))), (.k (.v (.int .i64 1))), (.k (.v (.string ⟨#[97]⟩)))])⟩,
      ⟨(some 6), none, (.mv (.t 7))⟩,
      ⟨(some 8), none, (.ex (.t 6) 0)⟩,
      ⟨(some 9), none, (.ex (.t 6) 1)⟩,
      ⟨(some 1), none, (.mv (.t 8))⟩,
      ⟨(some 2), none, (.mv (.t 9))⟩])
    (.seq
     (.reg 2 none [1, 2, 3] [
       ⟨(some 11), none, (.mv (.t 1))⟩,
       ⟨(some 12), none, (.call (.k (.clo F_register_Add [])) [(.t 11), (.k (.v (.int .i64 3))), (.k (.v (.int .i64 1))), (.k (.v (.int .i64 2))), (.k (.v (.string ⟨#[98]⟩)))])⟩,
       ⟨(some 10), none, (.mv (.t 12))⟩,
       ⟨(some 13), none, (.ex (.t 10) 0)⟩,
       ⟨(some 14), none, (.ex (.t 10) 1)⟩,
       ⟨(some 1), none, (.mv (.t 13))⟩,
       ⟨(some 3), none, (.mv (.t 14))⟩])
     (.seq
      (.reg 3 none [1, 2, 3, 4, 5] [
        ⟨(some 16), none, (.mv (.t 1))⟩,
        ⟨(some 17), none, (.call (.k (.clo F_register_History [])) [(.t 16), (.k (.v (.int .i64 2)))])⟩,
        ⟨(some 15), none, (.mv (.t 17))⟩,
        ⟨(some 18), none, (.ex (.t 15) 0)⟩,
        ⟨(some 19), none, (.ex (.t 15) 1)⟩,
        ⟨(some 4), none, (.mv (.t 18))⟩,
        ⟨(some 5), none, (.mv (.t 19))⟩])
      (.seq
       (.reg 4 none [0] [
         ⟨(some 20), none, (.mv (.t 2))⟩,
         ⟨(some 21), none, (.bin .eql false (.t 20) (.k (.v (.int .i64 0))))⟩,
         ⟨(some 22), none, (.mv (.t 21))⟩,
         ⟨(some 23), (some (22, true)), (.mv (.t 3))⟩,
         ⟨(some 24), (some (22, true)), (.bin .eql false (.t 23) (.k (.v (.int .i64 0))))⟩,
         ⟨(some 25), none, (.pick (.t 22) (.t 24) (.k (.v (.bool false))))⟩,
         ⟨(some 26), none, (.mv (.t 25))⟩,
         ⟨(some 27), (some (26, true)), (.mv (.t 1))⟩,
         ⟨(some 28), (some (26, true)), (.call (.k (.clo F_register_InForce [])) [(.t 27)])⟩,
         ⟨(some 29), (some (26, true)), (.bsl 1 1 [(.k (.v (.int .i64 2)))])⟩,
         ⟨(some 30), (some (26, true)), (.call (.k (.clo F_ref28_Ints [])) [(.t 28), (.t 29)])⟩,
         ⟨(some 31), none, (.pick (.t 26) (.t 30) (.k (.v (.bool false))))⟩,
         ⟨(some 32), none, (.mv (.t 31))⟩,
         ⟨(some 33), (some (32, true)), (.mv (.t 5))⟩,
         ⟨(some 34), (some (32, true)), (.bin .eql false (.t 33) (.k (.v (.int .i64 0))))⟩,
         ⟨(some 35), none, (.pick (.t 32) (.t 34) (.k (.v (.bool false))))⟩,
         ⟨(some 36), none, (.mv (.t 35))⟩,
         ⟨(some 37), (some (36, true)), (.mv (.t 4))⟩,
         ⟨(some 38), (some (36, true)), (.bsl 1 2 [(.k (.v (.int .i64 2))), (.k (.v (.int .i64 1)))])⟩,
         ⟨(some 39), (some (36, true)), (.call (.k (.clo F_ref28_Ints [])) [(.t 37), (.t 38)])⟩,
         ⟨(some 40), none, (.pick (.t 36) (.t 39) (.k (.v (.bool false))))⟩,
         ⟨(some 41), none, (.mv (.t 40))⟩,
         ⟨(some 42), (some (41, true)), (.call (.k (.clo F_register_Sum [])) [(.k (.v (.slice none 0 0)))])⟩,
         ⟨(some 43), (some (41, true)), (.bin .eql false (.t 42) (.k (.v (.int .u64 14695981039346656037))))⟩,
         ⟨(some 44), none, (.pick (.t 41) (.t 43) (.k (.v (.bool false))))⟩,
         ⟨(some 45), none, (.mv (.t 44))⟩,
         ⟨(some 46), (some (45, true)), (.bsl 1 1 [(.k (.v (.int .u8 97)))])⟩,
         ⟨(some 47), (some (45, true)), (.ext .cvB [(.t 46)])⟩,
         ⟨(some 48), (some (45, true)), (.call (.k (.clo F_register_Sum [])) [(.t 47)])⟩,
         ⟨(some 49), (some (45, true)), (.bin .eql false (.t 48) (.k (.v (.int .u64 12638187200555641996))))⟩,
         ⟨(some 50), none, (.pick (.t 45) (.t 49) (.k (.v (.bool false))))⟩,
         ⟨(some 0), none, (.mv (.t 50))⟩])
       .ret)))))
theorem fn_law38_awake : FnIR Try.prog F_law38_awake 51 [(1, [1, 2]), (2, [1, 2, 3]), (3, [1, 2, 3, 4, 5]), (4, [0])] ir_law38_awake [(.tmp 0)] :=
  ⟨Try.f8, _, Try.func8, rfl, by kernel_rfl, rfl, by kernel_rfl, by kernel_rfl⟩

/-- dataenclave/dataenclavemade.Register -/
def ir_made_Register : RC :=
  (.seq
   (.reg 0 none [0, 1] [
     ⟨(some 4), none, (.mv (.k (.v (.slice none 0 0))))⟩])
   (.seq
    (.reg 1 none [0, 1, 5] [
      ⟨(some 5), none, (.mv (.k (.v (.slice none 0 0))))⟩])
    (.seq
     (.seq
      (.reg 2 none [0, 5, 6] [
        ⟨(some 11), none, (.mv (.t 0))⟩,
        ⟨(some 12), none, (.mv (.t 1))⟩,
        ⟨(some 13), none, (.bin .add false (.t 12) (.k (.v (.int .i64 1))))⟩,
        ⟨(some 14), none, (.call (.k (.clo F_draw_Codes_Next [])) [(.t 11), (.t 13)])⟩,
        ⟨(some 6), none, (.mv (.t 14))⟩])
      (.block 0
       (.loop
        (.seq
         (.seq
          (.reg 3 none [0, 5, 6, 16] [
            ⟨(some 15), none, (.mv (.t 6))⟩,
            ⟨(some 16), none, (.bin .gtr false (.t 15) (.k (.v (.int .i64 0))))⟩])
          (.cond (.t 16)
           .skip
           (.exit 0)))
         (.seq
          (.block 1
           (.seq
            (.reg 5 none [0, 5, 6, 7] [
              ⟨(some 19), none, (.mv (.t 0))⟩,
              ⟨(some 20), none, (.call (.k (.clo F_draw_Codes_Range [])) [(.t 19), (.k (.v (.int .i64 1))), (.k (.v (.int .i64 3)))])⟩,
              ⟨(some 7), none, (.mv (.t 20))⟩])
            (.seq
             (.reg 6 none [0, 5, 6, 7, 8, 9, 10] [
               ⟨(some 8), none, (.mv (.k (.v (.int .i64 0))))⟩,
               ⟨(some 9), none, (.mv (.k (.v (.int .i64 0))))⟩,
               ⟨(some 10), none, (.mv (.k (.v (.string ⟨#[]⟩))))⟩])
             (.seq
              (.seq
               (.reg 7 none [0, 5, 6, 7, 8, 9, 10, 22] [
                 ⟨(some 21), none, (.mv (.t 7))⟩,
                 ⟨(some 22), none, (.bin .neq false (.t 21) (.k (.v (.int .i64 1))))⟩])
               (.cond (.t 22)
                (.reg 8 none [0, 5, 6, 7, 8, 9, 10] [
                  ⟨(some 23), none, (.mv (.t 0))⟩,
                  ⟨(some 24), none, (.mv (.t 5))⟩,
                  ⟨(some 25), none, (.lenL (.t 24))⟩,
                  ⟨(some 26), none, (.bin .add false (.t 25) (.k (.v (.int .i64 1))))⟩,
                  ⟨(some 27), none, (.call (.k (.clo F_draw_Codes_Range [])) [(.t 23), (.k (.v (.int .i64 0))), (.t 26)])⟩,
                  ⟨(some 8), none, (.mv (.t 27))⟩])
                .skip))
              (.seq
               (.seq
                (.reg 9 none [0, 5, 6, 7, 8, 9, 10, 29] [
                  ⟨(some 28), none, (.mv (.t 7))⟩,
                  ⟨(some 29), none, (.bin .neq false (.t 28) (.k (.v (.int .i64 2))))⟩])
                (.cond (.t 29)
                 (.reg 10 (some [0, 1, 0, 0, 11, 31, 63, 27, 255]) [0, 5, 6, 7, 8, 9, 10] [
                   ⟨(some 30), none, (.mv (.t 0))⟩,
                   ⟨(some 31), none, (.call (.k (.clo F_draw_Codes_Range [])) [(.t 30), (.k (.v (.int .i64 1))), (.k (.v (.int .i64 8)))])⟩,
                   ⟨(some 32), none, (.bsl 1 3 [(.k (.v (.string ⟨#[]⟩))), (.k (.v (.string ⟨#[97]⟩))), (.k (.v (.string ⟨#[116, 101, 120, 116, 10]⟩)))])⟩,
                   ⟨(some 33), none, (.mv (.t 0))⟩,
                   ⟨(some 34), none, (.call (.k (.clo F_draw_Codes_Next [])) [(.t 33), (.k (.v (.int .i64 3)))])⟩,
                   ⟨(some 35), none, (.ixL 1 (.t 32) (.t 34))⟩,
                   ⟨(some 36), none, (.ld none (.t 35))⟩,
                   ⟨(some 9), none, (.mv (.t 31))⟩,
                   ⟨(some 10), none, (.mv (.t 36))⟩])
                 .skip))
               (.reg 11 none [0, 5, 6] [
                 ⟨(some 38), none, (.mv (.t 5))⟩,
                 ⟨(some 39), none, (.mv (.t 7))⟩,
                 ⟨(some 40), none, (.mv (.t 8))⟩,
                 ⟨(some 41), none, (.mv (.t 9))⟩,
                 ⟨(some 42), none, (.mv (.t 10))⟩,
                 ⟨(some 43), none, (.call (.k (.clo F_ref38_Add [])) [(.t 38), (.t 39), (.t 40), (.t 41), (.t 42)])⟩,
                 ⟨(some 37), none, (.mv (.t 43))⟩,
                 ⟨(some 44), none, (.ex (.t 37) 0)⟩,
                 ⟨(some 45), none, (.ex (.t 37) 1)⟩,
                 ⟨(some 5), none, (.mv (.t 44))⟩]))))))
          (.reg 4 none [0, 5, 6] [
            ⟨(some 17), none, (.mv (.t 6))⟩,
            ⟨(some 18), none, (.bin .sub false (.t 17) (.k (.v (.int .i64 1))))⟩,
            ⟨(some 6), none, (.mv (.t 18))⟩]))))))
     (.seq
      (.reg 12 none [4] [
        ⟨(some 46), none, (.mv (.t 5))⟩,
        ⟨(some 4), none, (.mv (.t 46))⟩])
      .ret))))
theorem fn_made_Register : FnIR Try.prog F_made_Register 47 [(0, [0, 1]), (1, [0, 1, 5]), (2, [0, 5, 6]), (3, [0, 5, 6, 16]), (4, [0, 5, 6]), (5, [0, 5, 6, 7]), (6, [0, 5, 6, 7, 8, 9, 10]), (7, [0, 5, 6, 7, 8, 9, 10, 22]), (8, [0, 5, 6, 7, 8, 9, 10]), (9, [0, 5, 6, 7, 8, 9, 10, 29]), (10, [0, 5, 6, 7, 8, 9, 10]), (11, [0, 5, 6]), (12, [4])] ir_made_Register [(.tmp 4)] :=
  ⟨Try.f9, _, Try.func9, rfl, by kernel_rfl, rfl, by kernel_rfl, by kernel_rfl⟩

/-- dataenclave/dataenclavedraw.New -/
def ir_draw_New : RC :=
  (.seq
   (.reg 0 none [0] [
     ⟨(some 2), none, (.mv (.k (.v (.pointer none))))⟩])
   (.seq
    (.reg 1 none [2] [
      ⟨(some 3), none, (.mv (.t 0))⟩,
      ⟨(some 4), none, (.mv (.t 0))⟩,
      ⟨(some 5), none, (.lenL (.t 4))⟩,
      ⟨(some 6), none, (.mn [(.t 5), (.k (.v (.int .i64 400)))])⟩,
      ⟨(some 7), none, (.slL 1 (.t 3) none (some (.t 6)))⟩,
      ⟨(some 8), none, (.build [(.v (.slice none 0 0)), (.v (.int .i64 0))] [((0, 1), (.t 7))])⟩,
      ⟨(some 9), none, (.box (.t 8))⟩,
      ⟨(some 2), none, (.mv (.t 9))⟩])
    .ret))
theorem fn_draw_New : FnIR Try.prog F_draw_New 10 [(0, [0]), (1, [2])] ir_draw_New [(.tmp 2)] :=
  ⟨Try.f10, _, Try.func10, rfl, by kernel_rfl, rfl, by kernel_rfl, by kernel_rfl⟩

/-- dataenclave/register.Check -/
def ir_register_Check : RC :=
  (.seq
   (.reg 0 none [0] [
     ⟨(some 2), none, (.mv (.k (.v (.int .i64 0))))⟩])
   (.seq
    (.seq
     (.reg 1 none [0, 8] [
       ⟨(some 6), none, (.mv (.t 0))⟩,
       ⟨(some 7), none, (.lenL (.t 6))⟩,
       ⟨(some 8), none, (.bin .gtr false (.t 7) (.k (.v (.int .i64 60))))⟩])
     (.cond (.t 8)
      (.seq
       (.reg 2 none [2] [
         ⟨(some 2), none, (.mv (.k (.v (.int .i64 1))))⟩])
       .ret)
      .skip))
    (.seq
     (.seq
      (.reg 3 none [0, 9, 10, 11] [
        ⟨(some 9), none, (.mv (.t 0))⟩,
        ⟨(some 10), none, (.lenL (.t 9))⟩,
        ⟨(some 11), none, (.mv (.k (.v (.int .i64 0))))⟩])
      (.block 0
       (.loop
        (.seq
         (.reg 4 none [0, 9, 10, 11, 12] [
           ⟨(some 12), none, (.bin .lss false (.t 11) (.t 10))⟩])
         (.seq
          (.cond (.t 12)
           .skip
           (.exit 0))
          (.seq
           (.block 1
            (.seq
             (.reg 5 none [0, 3, 4, 9, 10, 11] [
               ⟨(some 13), none, (.mv (.t 11))⟩,
               ⟨(some 14), none, (.ixL 7 (.t 9) (.t 11))⟩,
               ⟨(some 15), none, (.ld (some 7) (.t 14))⟩,
               ⟨(some 4), none, (.new (.agg [(.v (.int .i64 0)), (.v (.int .u64 0)), (.v (.int .i64 0)), (.v (.int .i64 0)), (.v (.int .i64 0)), (.v (.string ⟨#[]⟩)), (.v (.int .u64 0))]))⟩,
               ⟨(some 3), none, (.mv (.t 13))⟩,
               ⟨none, none, (.st 7 (.t 4) (.t 15))⟩])
             (.seq
              (.block 2
               (.seq
                (.reg 6 none [0, 3, 4, 9, 10, 11, 16] [
                  ⟨(some 17), none, (.fa 0 (.t 4))⟩,
                  ⟨(some 18), none, (.ld none (.t 17))⟩,
                  ⟨(some 19), none, (.mv (.t 3))⟩,
                  ⟨(some 20), none, (.bin .add false (.t 19) (.k (.v (.int .i64 1))))⟩,
                  ⟨(some 21), none, (.bin .neq false (.t 18) (.t 20))⟩,
                  ⟨(some 16), none, (.mv (.t 21))⟩])
                (.cond (.t 16)
                 (.seq
                  (.reg 7 none [2] [
                    ⟨(some 2), none, (.mv (.k (.v (.int .i64 48))))⟩])
                  .ret)
                 (.seq
                  (.reg 8 (some [0, 1, 0, 0, 12, 28, 63, 127, 255, 511, 255, 1279, 4095, 8191, 16383]) [0, 3, 4, 9, 10, 11, 22] [
                    ⟨(some 23), none, (.fa 1 (.t 4))⟩,
                    ⟨(some 24), none, (.ld none (.t 23))⟩,
                    ⟨(some 25), none, (.mv (.t 0))⟩,
                    ⟨(some 26), none, (.mv (.t 3))⟩,
                    ⟨(some 27), none, (.slL 7 (.t 25) none (some (.t 26)))⟩,
                    ⟨(some 28), none, (.call (.k (.clo F_register_last [])) [(.t 27)])⟩,
                    ⟨(some 29), none, (.bin .neq false (.t 24) (.t 28))⟩,
                    ⟨(some 30), none, (.mv (.t 29))⟩,
                    ⟨(some 31), (some (30, false)), (.fa 6 (.t 4))⟩,
                    ⟨(some 32), (some (30, false)), (.ld none (.t 31))⟩,
                    ⟨(some 33), (some (30, false)), (.ld (some 7) (.t 4))⟩,
                    ⟨(some 34), (some (30, false)), (.call (.k (.clo F_register_Link [])) [(.t 33)])⟩,
                    ⟨(some 35), (some (30, false)), (.bin .neq false (.t 32) (.t 34))⟩,
                    ⟨(some 36), none, (.pick (.t 30) (.k (.v (.bool true))) (.t 35))⟩,
                    ⟨(some 22), none, (.mv (.t 36))⟩])
                  (.cond (.t 22)
                   (.seq
                    (.reg 9 none [2] [
                      ⟨(some 2), none, (.mv (.k (.v (.int .i64 47))))⟩])
                    .ret)
                   .skip)))))
              (.seq
               (.reg 10 (some [0, 0, 3, 0, 15, 31]) [0, 5, 9, 10, 11] [
                 ⟨(some 37), none, (.mv (.t 0))⟩,
                 ⟨(some 38), none, (.mv (.t 3))⟩,
                 ⟨(some 39), none, (.slL 7 (.t 37) none (some (.t 38)))⟩,
                 ⟨(some 40), none, (.ld (some 7) (.t 4))⟩,
                 ⟨(some 41), none, (.call (.k (.clo F_register_fits [])) [(.t 39), (.t 40)])⟩,
                 ⟨(some 5), none, (.mv (.t 41))⟩])
               (.seq
                (.reg 11 none [0, 5, 9, 10, 11, 43] [
                  ⟨(some 42), none, (.mv (.t 5))⟩,
                  ⟨(some 43), none, (.bin .neq false (.t 42) (.k (.v (.int .i64 0))))⟩])
                (.cond (.t 43)
                 (.seq
                  (.reg 12 none [2] [
                    ⟨(some 44), none, (.mv (.t 5))⟩,
                    ⟨(some 2), none, (.mv (.t 44))⟩])
                  .ret)
                 .skip))))))
           (.reg 13 none [0, 9, 10, 11] [
             ⟨(some 45), none, (.bin .add false (.t 11) (.k (.v (.int .i64 1))))⟩,
             ⟨(some 11), none, (.mv (.t 45))⟩])))))))
     (.seq
      (.reg 14 none [2] [
        ⟨(some 2), none, (.mv (.k (.v (.int .i64 0))))⟩])
      .ret))))
theorem fn_register_Check : FnIR Try.prog F_register_Check 46 [(0, [0]), (1, [0, 8]), (2, [2]), (3, [0, 9, 10, 11]), (4, [0, 9, 10, 11, 12]), (5, [0, 3, 4, 9, 10, 11]), (6, [0, 3, 4, 9, 10, 11, 16]), (7, [2]), (8, [0, 3, 4, 9, 10, 11, 22]), (9, [2]), (10, [0, 5, 9, 10, 11]), (11, [0, 5, 9, 10, 11, 43]), (12, [2]), (13, [0, 9, 10, 11]), (14, [2])] ir_register_Check [(.tmp 2)] :=
  ⟨Try.f11, _, Try.func11, rfl, by kernel_rfl, rfl, by kernel_rfl, by kernel_rfl⟩

/-- dataenclave/dataenclaveref38.Link -/
def ir_ref38_Link : RC :=
  (.seq
   (.reg 0 none [1] [
     ⟨(some 1), none, (.box (.t 0))⟩,
     ⟨(some 2), none, (.mv (.k (.v (.int .u64 0))))⟩])
   (.seq
    (.reg 1 none [1, 3] [
      ⟨(some 3), none, (.mv (.k (.v (.slice none 0 0))))⟩])
    (.seq
     (.seq
      (.reg 2 none [1, 3, 4] [
        ⟨(some 4), none, (.mv (.k (.v (.int .i64 7))))⟩])
      (.block 0
       (.loop
        (.seq
         (.seq
          (.reg 3 none [1, 3, 4, 9] [
            ⟨(some 8), none, (.mv (.t 4))⟩,
            ⟨(some 9), none, (.bin .geq false (.t 8) (.k (.v (.int .i64 0))))⟩])
          (.cond (.t 9)
           .skip
           (.exit 0)))
         (.seq
          (.block 1
           (.reg 5 none [1, 3, 4] [
             ⟨(some 12), none, (.mv (.t 3))⟩,
             ⟨(some 13), none, (.fa 1 (.t 1))⟩,
             ⟨(some 14), none, (.ld none (.t 13))⟩,
             ⟨(some 15), none, (.mv (.t 4))⟩,
             ⟨(some 16), none, (.bin .mul false (.k (.v (.int .i64 8))) (.t 15))⟩,
             ⟨(some 17), none, (.bin .shr false (.t 14) (.t 16))⟩,
             ⟨(some 18), none, (.cvI .u8 (.t 17))⟩,
             ⟨(some 19), none, (.bsl 1 1 [(.t 18)])⟩,
             ⟨(some 20), none, (.app 1 1 false (.t 12) (.t 19))⟩,
             ⟨(some 3), none, (.mv (.t 20))⟩]))
          (.reg 4 none [1, 3, 4] [
            ⟨(some 10), none, (.mv (.t 4))⟩,
            ⟨(some 11), none, (.bin .sub false (.t 10) (.k (.v (.int .i64 1))))⟩,
            ⟨(some 4), none, (.mv (.t 11))⟩]))))))
     (.seq
      (.seq
       (.reg 6 none [1, 3, 29, 30, 31] [
         ⟨(some 21), none, (.fa 0 (.t 1))⟩,
         ⟨(some 22), none, (.ld none (.t 21))⟩,
         ⟨(some 23), none, (.fa 2 (.t 1))⟩,
         ⟨(some 24), none, (.ld none (.t 23))⟩,
         ⟨(some 25), none, (.fa 3 (.t 1))⟩,
         ⟨(some 26), none, (.ld none (.t 25))⟩,
         ⟨(some 27), none, (.fa 4 (.t 1))⟩,
         ⟨(some 28), none, (.ld none (.t 27))⟩,
         ⟨(some 29), none, (.bsl 1 4 [(.t 22), (.t 24), (.t 26), (.t 28)])⟩,
         ⟨(some 30), none, (.lenL (.t 29))⟩,
         ⟨(some 31), none, (.mv (.k (.v (.int .i64 0))))⟩])
       (.block 2
        (.loop
         (.seq
          (.reg 7 none [1, 3, 29, 30, 31, 32] [
            ⟨(some 32), none, (.bin .lss false (.t 31) (.t 30))⟩])
          (.seq
           (.cond (.t 32)
            .skip
            (.exit 2))
           (.seq
            (.block 3
             (.seq
              (.reg 8 none [1, 3, 6, 29, 30, 31] [
                ⟨(some 33), none, (.ixL 1 (.t 29) (.t 31))⟩,
                ⟨(some 34), none, (.ld none (.t 33))⟩,
                ⟨(some 6), none, (.mv (.t 34))⟩])
              (.seq
               (.reg 9 none [1, 3, 6, 7, 29, 30, 31] [
                 ⟨(some 7), none, (.mv (.k (.v (.int .i64 4))))⟩])
               (.block 4
                (.loop
                 (.seq
                  (.seq
                   (.reg 10 none [1, 3, 6, 7, 29, 30, 31, 36] [
                     ⟨(some 35), none, (.mv (.t 7))⟩,
                     ⟨(some 36), none, (.bin .geq false (.t 35) (.k (.v (.int .i64 0))))⟩])
                   (.cond (.t 36)
                    .skip
                    (.exit 4)))
                  (.seq
                   (.block 5
                    (.reg 12 none [1, 3, 6, 7, 29, 30, 31] [
                      ⟨(some 39), none, (.mv (.t 3))⟩,
                      ⟨(some 40), none, (.mv (.t 6))⟩,
                      ⟨(some 41), none, (.mv (.t 7))⟩,
                      ⟨(some 42), none, (.bin .mul false (.k (.v (.int .i64 8))) (.t 41))⟩,
                      ⟨(some 43), none, (.bin .shr false (.t 40) (.t 42))⟩,
                      ⟨(some 44), none, (.cvI .u8 (.t 43))⟩,
                      ⟨(some 45), none, (.bsl 1 1 [(.t 44)])⟩,
                      ⟨(some 46), none, (.app 1 1 false (.t 39) (.t 45))⟩,
                      ⟨(some 3), none, (.mv (.t 46))⟩]))
                   (.reg 11 none [1, 3, 6, 7, 29, 30, 31] [
                     ⟨(some 37), none, (.mv (.t 7))⟩,
                     ⟨(some 38), none, (.bin .sub false (.t 37) (.k (.v (.int .i64 1))))⟩,
                     ⟨(some 7), none, (.mv (.t 38))⟩]))))))))
            (.reg 13 none [1, 3, 29, 30, 31] [
              ⟨(some 47), none, (.bin .add false (.t 31) (.k (.v (.int .i64 1))))⟩,
              ⟨(some 31), none, (.mv (.t 47))⟩])))))))
      (.seq
       (.reg 14 none [2] [
         ⟨(some 48), none, (.mv (.t 3))⟩,
         ⟨(some 49), none, (.fa 5 (.t 1))⟩,
         ⟨(some 50), none, (.ld none (.t 49))⟩,
         ⟨(some 51), none, (.app 1 1 true (.t 48) (.t 50))⟩,
         ⟨(some 52), none, (.call (.k (.clo F_ref38_Sum [])) [(.t 51)])⟩,
         ⟨(some 2), none, (.mv (.t 52))⟩])
       .ret)))))
theorem fn_ref38_Link : FnIR Try.prog F_ref38_Link 53 [(0, [1]), (1, [1, 3]), (2, [1, 3, 4]), (3, [1, 3, 4, 9]), (4, [1, 3, 4]), (5, [1, 3, 4]), (6, [1, 3, 29, 30, 31]), (7, [1, 3, 29, 30, 31, 32]), (8, [1, 3, 6, 29, 30, 31]), (9, [1, 3, 6, 7, 29, 30, 31]), (10, [1, 3, 6, 7, 29, 30, 31, 36]), (11, [1, 3, 6, 7, 29, 30, 31]), (12, [1, 3, 6, 7, 29, 30, 31]), (13, [1, 3, 29, 30, 31]), (14, [2])] ir_ref38_Link [(.tmp 2)] :=
  ⟨Try.f12, _, Try.func12, rfl, by kernel_rfl, rfl, by kernel_rfl, by kernel_rfl⟩

/-- dataenclave/register.InForce -/
def ir_register_InForce : RC :=
  (.seq
   (.reg 0 none [0] [
     ⟨(some 2), none, (.mv (.k (.v (.slice none 0 0))))⟩])
   (.seq
    (.seq
     (.reg 1 none [0, 5] [
       ⟨(some 3), none, (.mv (.t 0))⟩,
       ⟨(some 4), none, (.call (.k (.clo F_register_Check [])) [(.t 3)])⟩,
       ⟨(some 5), none, (.bin .neq false (.t 4) (.k (.v (.int .i64 0))))⟩])
     (.cond (.t 5)
      (.seq
       (.reg 2 none [2] [
         ⟨(some 2), none, (.mv (.k (.v (.slice none 0 0))))⟩])
       .ret)
      .skip))
    (.seq
     (.reg 3 none [2] [
       ⟨(some 6), none, (.mv (.t 0))⟩,
       ⟨(some 7), none, (.call (.k (.clo F_register_standing [])) [(.t 6)])⟩,
       ⟨(some 2), none, (.mv (.t 7))⟩])
     .ret)))
theorem fn_register_InForce : FnIR Try.prog F_register_InForce 8 [(0, [0]), (1, [0, 5]), (2, [2]), (3, [2])] ir_register_InForce [(.tmp 2)] :=
  ⟨Try.f13, _, Try.func13, rfl, by kernel_rfl, rfl, by kernel_rfl, by kernel_rfl⟩

/-- dataenclave/register.History -/
def ir_register_History : RC :=
  (.seq
   (.reg 0 none [0, 1] [
     ⟨(some 4), none, (.mv (.k (.v (.slice none 0 0))))⟩,
     ⟨(some 5), none, (.mv (.k (.v (.int .i64 0))))⟩])
   (.seq
    (.seq
     (.reg 1 none [0, 1, 6] [
       ⟨(some 9), none, (.mv (.t 0))⟩,
       ⟨(some 10), none, (.call (.k (.clo F_register_Check [])) [(.t 9)])⟩,
       ⟨(some 6), none, (.mv (.t 10))⟩])
     (.seq
      (.reg 2 none [0, 1, 6, 12] [
        ⟨(some 11), none, (.mv (.t 6))⟩,
        ⟨(some 12), none, (.bin .neq false (.t 11) (.k (.v (.int .i64 0))))⟩])
      (.cond (.t 12)
       (.seq
        (.reg 3 none [4, 5] [
          ⟨(some 13), none, (.mv (.t 6))⟩,
          ⟨(some 4), none, (.mv (.k (.v (.slice none 0 0))))⟩,
          ⟨(some 5), none, (.mv (.t 13))⟩])
        .ret)
       .skip)))
    (.seq
     (.seq
      (.reg 4 none [0, 1, 30] [
        ⟨(some 14), none, (.mv (.t 1))⟩,
        ⟨(some 15), none, (.bin .lss false (.t 14) (.k (.v (.int .i64 1))))⟩,
        ⟨(some 16), none, (.mv (.t 15))⟩,
        ⟨(some 17), (some (16, false)), (.mv (.t 1))⟩,
        ⟨(some 18), (some (16, false)), (.mv (.t 0))⟩,
        ⟨(some 19), (some (16, false)), (.lenL (.t 18))⟩,
        ⟨(some 20), (some (16, false)), (.bin .gtr false (.t 17) (.t 19))⟩,
        ⟨(some 21), none, (.pick (.t 16) (.k (.v (.bool true))) (.t 20))⟩,
        ⟨(some 22), none, (.mv (.t 21))⟩,
        ⟨(some 23), (some (22, false)), (.mv (.t 0))⟩,
        ⟨(some 24), (some (22, false)), (.mv (.t 1))⟩,
        ⟨(some 25), (some (22, false)), (.bin .sub false (.t 24) (.k (.v (.int .i64 1))))⟩,
        ⟨(some 26), (some (22, false)), (.ixL 7 (.t 23) (.t 25))⟩,
        ⟨(some 27), (some (22, false)), (.ld (some 7) (.t 26))⟩,
        ⟨(some 28), (some (22, false)), (.call (.k (.clo F_register_releases [])) [(.t 27)])⟩,
        ⟨(some 29), (some (22, false)), (.un .not (.t 28))⟩,
        ⟨(some 30), none, (.pick (.t 22) (.k (.v (.bool true))) (.t 29))⟩])
      (.cond (.t 30)
       (.seq
        (.reg 5 none [4, 5] [
          ⟨(some 4), none, (.mv (.k (.v (.slice none 0 0))))⟩,
          ⟨(some 5), none, (.mv (.k (.v (.int .i64 48))))⟩])
        .ret)
       .skip))
     (.seq
      (.reg 6 none [0, 1, 7] [
        ⟨(some 7), none, (.mv (.k (.v (.slice none 0 0))))⟩])
      (.seq
       (.seq
        (.reg 7 none [0, 7, 8] [
          ⟨(some 31), none, (.mv (.t 1))⟩,
          ⟨(some 8), none, (.mv (.t 31))⟩])
        (.block 0
         (.loop
          (.seq
           (.seq
            (.reg 8 none [0, 7, 8, 33] [
              ⟨(some 32), none, (.mv (.t 8))⟩,
              ⟨(some 33), none, (.bin .gtr false (.t 32) (.k (.v (.int .i64 0))))⟩])
            (.cond (.t 33)
             .skip
             (.exit 0)))
           (.seq
            (.block 1
             (.reg 10 none [0, 7, 8] [
               ⟨(some 40), none, (.mv (.t 7))⟩,
               ⟨(some 41), none, (.mv (.t 8))⟩,
               ⟨(some 42), none, (.bsl 1 1 [(.t 41)])⟩,
               ⟨(some 43), none, (.app 1 8 false (.t 40) (.t 42))⟩,
               ⟨(some 7), none, (.mv (.t 43))⟩]))
            (.reg 9 none [0, 7, 8] [
              ⟨(some 34), none, (.mv (.t 0))⟩,
              ⟨(some 35), none, (.mv (.t 8))⟩,
              ⟨(some 36), none, (.bin .sub false (.t 35) (.k (.v (.int .i64 1))))⟩,
              ⟨(some 37), none, (.ixL 7 (.t 34) (.t 36))⟩,
              ⟨(some 38), none, (.fa 3 (.t 37))⟩,
              ⟨(some 39), none, (.ld none (.t 38))⟩,
              ⟨(some 8), none, (.mv (.t 39))⟩]))))))
       (.seq
        (.reg 11 none [4, 5] [
          ⟨(some 44), none, (.mv (.t 7))⟩,
          ⟨(some 4), none, (.mv (.t 44))⟩,
          ⟨(some 5), none, (.mv (.k (.v (.int .i64 0))))⟩])
        .ret))))))
theorem fn_register_History : FnIR Try.prog F_register_History 45 [(0, [0, 1]), (1, [0, 1, 6]), (2, [0, 1, 6, 12]), (3, [4, 5]), (4, [0, 1, 30]), (5, [4, 5]), (6, [0, 1, 7]), (7, [0, 7, 8]), (8, [0, 7, 8, 33]), (9, [0, 7, 8]), (10, [0, 7, 8]), (11, [4, 5])] ir_register_History [(.tmp 4), (.tmp 5)] :=
  ⟨Try.f14, _, Try.func14, rfl, by kernel_rfl, rfl, by kernel_rfl, by kernel_rfl⟩

/-- dataenclave/dataenclavedraw.Mod -/
def ir_draw_Mod : RC :=
  (.seq
   (.reg 0 none [0, 1] [
     ⟨(some 4), none, (.mv (.k (.v (.int .i64 0))))⟩])
   (.seq
    (.seq
     (.reg 1 none [0, 1, 6] [
       ⟨(some 5), none, (.mv (.t 1))⟩,
       ⟨(some 6), none, (.bin .lss false (.t 5) (.k (.v (.int .i64 1))))⟩])
     (.cond (.t 6)
      (.seq
       (.reg 2 none [4] [
         ⟨(some 4), none, (.mv (.k (.v (.int .i64 0))))⟩])
       .ret)
      .skip))
    (.seq
     (.reg 3 none [0, 1] [
       ⟨(some 7), none, (.mv (.t 0))⟩,
       ⟨(some 8), none, (.mv (.t 1))⟩,
       ⟨(some 9), none, (.bin .rem false (.t 7) (.t 8))⟩,
       ⟨(some 0), none, (.mv (.t 9))⟩])
     (.seq
      (.seq
       (.reg 4 none [0, 1, 11] [
         ⟨(some 10), none, (.mv (.t 0))⟩,
         ⟨(some 11), none, (.bin .lss false (.t 10) (.k (.v (.int .i64 0))))⟩])
       (.cond (.t 11)
        (.reg 5 none [0] [
          ⟨(some 12), none, (.mv (.t 0))⟩,
          ⟨(some 13), none, (.mv (.t 1))⟩,
          ⟨(some 14), none, (.bin .add false (.t 12) (.t 13))⟩,
          ⟨(some 0), none, (.mv (.t 14))⟩])
        .skip))
      (.seq
       (.reg 6 none [4] [
         ⟨(some 15), none, (.mv (.t 0))⟩,
         ⟨(some 4), none, (.mv (.t 15))⟩])
       .ret)))))
theorem fn_draw_Mod : FnIR Try.prog F_draw_Mod 16 [(0, [0, 1]), (1, [0, 1, 6]), (2, [4]), (3, [0, 1]), (4, [0, 1, 11]), (5, [0]), (6, [4])] ir_draw_Mod [(.tmp 4)] :=
  ⟨Try.f15, _, Try.func15, rfl, by kernel_rfl, rfl, by kernel_rfl, by kernel_rfl⟩

/-- dataenclave/register.Sum -/
def ir_register_Sum : RC :=
  (.seq
   (.reg 0 none [0] [
     ⟨(some 2), none, (.mv (.k (.v (.int .u64 0))))⟩])
   (.seq
    (.reg 1 none [0, 3] [
      ⟨(some 3), none, (.mv (.k (.v (.int .u64 14695981039346656037))))⟩])
    (.seq
     (.seq
      (.reg 2 none [3, 6, 7, 8] [
        ⟨(some 6), none, (.mv (.t 0))⟩,
        ⟨(some 7), none, (.lenL (.t 6))⟩,
        ⟨(some 8), none, (.mv (.k (.v (.int .i64 0))))⟩])
      (.block 0
       (.loop
        (.seq
         (.reg 3 none [3, 6, 7, 8, 9] [
           ⟨(some 9), none, (.bin .lss false (.t 8) (.t 7))⟩])
         (.seq
          (.cond (.t 9)
           .skip
           (.exit 0))
          (.seq
           (.block 1
            (.seq
             (.reg 4 none [3, 5, 6, 7, 8] [
               ⟨(some 10), none, (.ixL 1 (.t 6) (.t 8))⟩,
               ⟨(some 11), none, (.ld none (.t 10))⟩,
               ⟨(some 5), none, (.mv (.t 11))⟩])
             (.reg 5 none [3, 6, 7, 8] [
               ⟨(some 12), none, (.mv (.t 3))⟩,
               ⟨(some 13), none, (.mv (.t 5))⟩,
               ⟨(some 14), none, (.cvI .u64 (.t 13))⟩,
               ⟨(some 15), none, (.bin .xor false (.t 12) (.t 14))⟩,
               ⟨(some 16), none, (.bin .mul false (.t 15) (.k (.v (.int .u64 1099511628211))))⟩,
               ⟨(some 3), none, (.mv (.t 16))⟩])))
           (.reg 6 none [3, 6, 7, 8] [
             ⟨(some 17), none, (.bin .add false (.t 8) (.k (.v (.int .i64 1))))⟩,
             ⟨(some 8), none, (.mv (.t 17))⟩])))))))
     (.seq
      (.reg 7 none [2] [
        ⟨(some 18), none, (.mv (.t 3))⟩,
        ⟨(some 2), none, (.mv (.t 18))⟩])
      .ret))))
theorem fn_register_Sum : FnIR Try.prog F_register_Sum 19 [(0, [0]), (1, [0, 3]), (2, [3, 6, 7, 8]), (3, [3, 6, 7, 8, 9]), (4, [3, 5, 6, 7, 8]), (5, [3, 6, 7, 8]), (6, [3, 6, 7, 8]), (7, [2])] ir_register_Sum [(.tmp 2)] :=
  ⟨Try.f16, _, Try.func16, rfl, by kernel_rfl, rfl, by kernel_rfl, by kernel_rfl⟩

/-- dataenclave/dataenclaveref38.Sum -/
def ir_ref38_Sum : RC :=
  (.seq
   (.reg 0 none [0] [
     ⟨(some 2), none, (.mv (.k (.v (.int .u64 0))))⟩])
   (.seq
    (.reg 1 none [0, 3] [
      ⟨(some 3), none, (.mv (.k (.v (.int .u64 14695981039346656037))))⟩])
    (.seq
     (.seq
      (.reg 2 none [3, 6, 7, 8] [
        ⟨(some 6), none, (.mv (.t 0))⟩,
        ⟨(some 7), none, (.lenL (.t 6))⟩,
        ⟨(some 8), none, (.mv (.k (.v (.int .i64 0))))⟩])
      (.block 0
       (.loop
        (.seq
         (.reg 3 none [3, 6, 7, 8, 9] [
           ⟨(some 9), none, (.bin .lss false (.t 8) (.t 7))⟩])
         (.seq
          (.cond (.t 9)
           .skip
           (.exit 0))
          (.seq
           (.block 1
            (.seq
             (.reg 4 none [3, 5, 6, 7, 8] [
               ⟨(some 10), none, (.ixL 1 (.t 6) (.t 8))⟩,
               ⟨(some 11), none, (.ld none (.t 10))⟩,
               ⟨(some 5), none, (.mv (.t 11))⟩])
             (.reg 5 none [3, 6, 7, 8] [
               ⟨(some 12), none, (.mv (.t 3))⟩,
               ⟨(some 13), none, (.mv (.t 5))⟩,
               ⟨(some 14), none, (.cvI .u64 (.t 13))⟩,
               ⟨(some 15), none, (.bin .xor false (.t 12) (.t 14))⟩,
               ⟨(some 16), none, (.bin .mul false (.t 15) (.k (.v (.int .u64 1099511628211))))⟩,
               ⟨(some 3), none, (.mv (.t 16))⟩])))
           (.reg 6 none [3, 6, 7, 8] [
             ⟨(some 17), none, (.bin .add false (.t 8) (.k (.v (.int .i64 1))))⟩,
             ⟨(some 8), none, (.mv (.t 17))⟩])))))))
     (.seq
      (.reg 7 none [2] [
        ⟨(some 18), none, (.mv (.t 3))⟩,
        ⟨(some 2), none, (.mv (.t 18))⟩])
      .ret))))
theorem fn_ref38_Sum : FnIR Try.prog F_ref38_Sum 19 [(0, [0]), (1, [0, 3]), (2, [3, 6, 7, 8]), (3, [3, 6, 7, 8, 9]), (4, [3, 5, 6, 7, 8]), (5, [3, 6, 7, 8]), (6, [3, 6, 7, 8]), (7, [2])] ir_ref38_Sum [(.tmp 2)] :=
  ⟨Try.f17, _, Try.func17, rfl, by kernel_rfl, rfl, by kernel_rfl, by kernel_rfl⟩

/-- dataenclave/register.Link -/
def ir_register_Link : RC :=
  (.seq
   (.reg 0 none [1] [
     ⟨(some 1), none, (.box (.t 0))⟩,
     ⟨(some 2), none, (.mv (.k (.v (.int .u64 0))))⟩])
   (.seq
    (.reg 1 none [1, 3] [
      ⟨(some 4), none, (.fa 1 (.t 1))⟩,
      ⟨(some 5), none, (.ld none (.t 4))⟩,
      ⟨(some 6), none, (.bsl 1 1 [(.t 5)])⟩,
      ⟨(some 7), none, (.call (.k (.clo F_register_put [])) [(.k (.v (.slice none 0 0))), (.k (.v (.int .i64 8))), (.t 6)])⟩,
      ⟨(some 3), none, (.mv (.t 7))⟩])
    (.seq
     (.reg 2 none [1, 3] [
       ⟨(some 8), none, (.mv (.t 3))⟩,
       ⟨(some 9), none, (.fa 0 (.t 1))⟩,
       ⟨(some 10), none, (.ld none (.t 9))⟩,
       ⟨(some 11), none, (.cvI .u64 (.t 10))⟩,
       ⟨(some 12), none, (.fa 2 (.t 1))⟩,
       ⟨(some 13), none, (.ld none (.t 12))⟩,
       ⟨(some 14), none, (.cvI .u64 (.t 13))⟩,
       ⟨(some 15), none, (.fa 3 (.t 1))⟩,
       ⟨(some 16), none, (.ld none (.t 15))⟩,
       ⟨(some 17), none, (.cvI .u64 (.t 16))⟩,
       ⟨(some 18), none, (.fa 4 (.t 1))⟩,
       ⟨(some 19), none, (.ld none (.t 18))⟩,
       ⟨(some 20), none, (.cvI .u64 (.t 19))⟩,
       ⟨(some 21), none, (.bsl 1 4 [(.t 11), (.t 14), (.t 17), (.t 20)])⟩,
       ⟨(some 22), none, (.call (.k (.clo F_register_put [])) [(.t 8), (.k (.v (.int .i64 5))), (.t 21)])⟩,
       ⟨(some 3), none, (.mv (.t 22))⟩])
     (.seq
      (.reg 3 none [2] [
        ⟨(some 23), none, (.mv (.t 3))⟩,
        ⟨(some 24), none, (.fa 5 (.t 1))⟩,
        ⟨(some 25), none, (.ld none (.t 24))⟩,
        ⟨(some 26), none, (.app 1 1 true (.t 23) (.t 25))⟩,
        ⟨(some 27), none, (.call (.k (.clo F_register_Sum [])) [(.t 26)])⟩,
        ⟨(some 2), none, (.mv (.t 27))⟩])
      .ret))))
theorem fn_register_Link : FnIR Try.prog F_register_Link 28 [(0, [1]), (1, [1, 3]), (2, [1, 3]), (3, [2])] ir_register_Link [(.tmp 2)] :=
  ⟨Try.f18, _, Try.func18, rfl, by kernel_rfl, rfl, by kernel_rfl, by kernel_rfl⟩

/-- dataenclave/dataenclaveref38.Check -/
def ir_ref38_Check : RC :=
  (.seq
   (.reg 0 none [0] [
     ⟨(some 2), none, (.mv (.k (.v (.int .i64 0))))⟩])
   (.seq
    (.seq
     (.reg 1 none [0, 9] [
       ⟨(some 7), none, (.mv (.t 0))⟩,
       ⟨(some 8), none, (.lenL (.t 7))⟩,
       ⟨(some 9), none, (.bin .gtr false (.t 8) (.k (.v (.int .i64 60))))⟩])
     (.cond (.t 9)
      (.seq
       (.reg 2 none [2] [
         ⟨(some 2), none, (.mv (.k (.v (.int .i64 1))))⟩])
       .ret)
      .skip))
    (.seq
     (.reg 3 none [0, 3] [
       ⟨(some 3), none, (.mv (.k (.v (.int .u64 0))))⟩])
     (.seq
      (.seq
       (.reg 4 none [0, 3, 10, 11, 12] [
         ⟨(some 10), none, (.mv (.t 0))⟩,
         ⟨(some 11), none, (.lenL (.t 10))⟩,
         ⟨(some 12), none, (.mv (.k (.v (.int .i64 0))))⟩])
       (.block 0
        (.loop
         (.seq
          (.reg 5 none [0, 3, 10, 11, 12, 13] [
            ⟨(some 13), none, (.bin .lss false (.t 12) (.t 11))⟩])
          (.seq
           (.cond (.t 13)
            .skip
            (.exit 0))
           (.seq
            (.block 1
             (.seq
              (.reg 6 none [0, 3, 4, 5, 10, 11, 12] [
                ⟨(some 14), none, (.mv (.t 12))⟩,
                ⟨(some 15), none, (.ixL 7 (.t 10) (.t 12))⟩,
                ⟨(some 16), none, (.ld (some 7) (.t 15))⟩,
                ⟨(some 5), none, (.new (.agg [(.v (.int .i64 0)), (.v (.int .u64 0)), (.v (.int .i64 0)), (.v (.int .i64 0)), (.v (.int .i64 0)), (.v (.string ⟨#[]⟩)), (.v (.int .u64 0))]))⟩,
                ⟨(some 4), none, (.mv (.t 14))⟩,
                ⟨none, none, (.st 7 (.t 5) (.t 16))⟩])
              (.seq
               (.seq
                (.reg 7 none [0, 3, 4, 5, 10, 11, 12, 21] [
                  ⟨(some 17), none, (.fa 0 (.t 5))⟩,
                  ⟨(some 18), none, (.ld none (.t 17))⟩,
                  ⟨(some 19), none, (.mv (.t 4))⟩,
                  ⟨(some 20), none, (.bin .add false (.t 19) (.k (.v (.int .i64 1))))⟩,
                  ⟨(some 21), none, (.bin .neq false (.t 18) (.t 20))⟩])
                (.cond (.t 21)
                 (.seq
                  (.reg 8 none [2] [
                    ⟨(some 2), none, (.mv (.k (.v (.int .i64 48))))⟩])
                  .ret)
                 .skip))
               (.seq
                (.seq
                 (.reg 9 (some [0, 1, 0, 7, 15, 31, 63, 31, 159, 511, 1023]) [0, 4, 5, 10, 11, 12, 32] [
                   ⟨(some 22), none, (.fa 1 (.t 5))⟩,
                   ⟨(some 23), none, (.ld none (.t 22))⟩,
                   ⟨(some 24), none, (.mv (.t 3))⟩,
                   ⟨(some 25), none, (.bin .neq false (.t 23) (.t 24))⟩,
                   ⟨(some 26), none, (.mv (.t 25))⟩,
                   ⟨(some 27), (some (26, false)), (.fa 6 (.t 5))⟩,
                   ⟨(some 28), (some (26, false)), (.ld none (.t 27))⟩,
                   ⟨(some 29), (some (26, false)), (.ld (some 7) (.t 5))⟩,
                   ⟨(some 30), (some (26, false)), (.call (.k (.clo F_ref38_Link [])) [(.t 29)])⟩,
                   ⟨(some 31), (some (26, false)), (.bin .neq false (.t 28) (.t 30))⟩,
                   ⟨(some 32), none, (.pick (.t 26) (.k (.v (.bool true))) (.t 31))⟩])
                 (.cond (.t 32)
                  (.seq
                   (.reg 10 none [2] [
                     ⟨(some 2), none, (.mv (.k (.v (.int .i64 47))))⟩])
                   .ret)
                  .skip))
                (.seq
                 (.seq
                  (.reg 11 (some [0, 0, 3, 0, 15, 31]) [0, 5, 6, 10, 11, 12] [
                    ⟨(some 33), none, (.mv (.t 0))⟩,
                    ⟨(some 34), none, (.mv (.t 4))⟩,
                    ⟨(some 35), none, (.slL 7 (.t 33) none (some (.t 34)))⟩,
                    ⟨(some 36), none, (.ld (some 7) (.t 5))⟩,
                    ⟨(some 37), none, (.call (.k (.clo F_ref38_about [])) [(.t 35), (.t 36)])⟩,
                    ⟨(some 6), none, (.mv (.t 37))⟩])
                  (.seq
                   (.reg 12 none [0, 5, 6, 10, 11, 12, 39] [
                     ⟨(some 38), none, (.mv (.t 6))⟩,
                     ⟨(some 39), none, (.bin .neq false (.t 38) (.k (.v (.int .i64 0))))⟩])
                   (.cond (.t 39)
                    (.seq
                     (.reg 13 none [2] [
                       ⟨(some 40), none, (.mv (.t 6))⟩,
                       ⟨(some 2), none, (.mv (.t 40))⟩])
                     .ret)
                    .skip)))
                 (.reg 14 none [0, 3, 10, 11, 12] [
                   ⟨(some 41), none, (.fa 6 (.t 5))⟩,
                   ⟨(some 42), none, (.ld none (.t 41))⟩,
                   ⟨(some 3), none, (.mv (.t 42))⟩]))))))
            (.reg 15 none [0, 3, 10, 11, 12] [
              ⟨(some 43), none, (.bin .add false (.t 12) (.k (.v (.int .i64 1))))⟩,
              ⟨(some 12), none, (.mv (.t 43))⟩])))))))
      (.seq
       (.reg 16 none [2] [
         ⟨(some 2), none, (.mv (.k (.v (.int .i64 0))))⟩])
       .ret)))))
theorem fn_ref38_Check : FnIR Try.prog F_ref38_Check 44 [(0, [0]), (1, [0, 9]), (2, [2]), (3, [0, 3]), (4, [0, 3, 10, 11, 12]), (5, [0, 3, 10, 11, 12, 13]), (6, [0, 3, 4, 5, 10, 11, 12]), (7, [0, 3, 4, 5, 10, 11, 12, 21]), (8, [2]), (9, [0, 4, 5, 10, 11, 12, 32]), (10, [2]), (11, [0, 5, 6, 10, 11, 12]), (12, [0, 5, 6, 10, 11, 12, 39]), (13, [2]), (14, [0, 3, 10, 11, 12]), (15, [0, 3, 10, 11, 12]), (16, [2])] ir_ref38_Check [(.tmp 2)] :=
  ⟨Try.f19, _, Try.func19, rfl, by kernel_rfl, rfl, by kernel_rfl, by kernel_rfl⟩

/-- dataenclave/dataenclaveref28.Ints -/
def ir_ref28_Ints : RC :=
  (.seq
   (.reg 0 none [0, 1] [
     ⟨(some 4), none, (.mv (.k (.v (.bool false))))⟩])
   (.seq
    (.seq
     (.reg 1 none [0, 1, 10] [
       ⟨(some 6), none, (.mv (.t 0))⟩,
       ⟨(some 7), none, (.lenL (.t 6))⟩,
       ⟨(some 8), none, (.mv (.t 1))⟩,
       ⟨(some 9), none, (.lenL (.t 8))⟩,
       ⟨(some 10), none, (.bin .neq false (.t 7) (.t 9))⟩])
     (.cond (.t 10)
      (.seq
       (.reg 2 none [4] [
         ⟨(some 4), none, (.mv (.k (.v (.bool false))))⟩])
       .ret)
      .skip))
    (.seq
     (.seq
      (.reg 3 none [0, 1, 12, 13] [
        ⟨(some 11), none, (.mv (.t 0))⟩,
        ⟨(some 12), none, (.lenL (.t 11))⟩,
        ⟨(some 13), none, (.mv (.k (.v (.int .i64 0))))⟩])
      (.block 0
       (.loop
        (.seq
         (.reg 4 none [0, 1, 12, 13, 14] [
           ⟨(some 14), none, (.bin .lss false (.t 13) (.t 12))⟩])
         (.seq
          (.cond (.t 14)
           .skip
           (.exit 0))
          (.seq
           (.block 1
            (.seq
             (.reg 5 none [0, 1, 5, 12, 13] [
               ⟨(some 15), none, (.mv (.t 13))⟩,
               ⟨(some 5), none, (.mv (.t 15))⟩])
             (.seq
              (.reg 6 (some [0, 0, 3, 7, 0, 0, 48, 112, 255]) [0, 1, 12, 13, 24] [
                ⟨(some 16), none, (.mv (.t 0))⟩,
                ⟨(some 17), none, (.mv (.t 5))⟩,
                ⟨(some 18), none, (.ixL 1 (.t 16) (.t 17))⟩,
                ⟨(some 19), none, (.ld none (.t 18))⟩,
                ⟨(some 20), none, (.mv (.t 1))⟩,
                ⟨(some 21), none, (.mv (.t 5))⟩,
                ⟨(some 22), none, (.ixL 1 (.t 20) (.t 21))⟩,
                ⟨(some 23), none, (.ld none (.t 22))⟩,
                ⟨(some 24), none, (.bin .neq false (.t 19) (.t 23))⟩])
              (.cond (.t 24)
               (.seq
                (.reg 7 none [4] [
                  ⟨(some 4), none, (.mv (.k (.v (.bool false))))⟩])
                .ret)
               .skip))))
           (.reg 8 none [0, 1, 12, 13] [
             ⟨(some 25), none, (.bin .add false (.t 13) (.k (.v (.int .i64 1))))⟩,
             ⟨(some 13), none, (.mv (.t 25))⟩])))))))
     (.seq
      (.reg 9 none [4] [
        ⟨(some 4), none, (.mv (.k (.v (.bool true))))⟩])
      .ret))))
theorem fn_ref28_Ints : FnIR Try.prog F_ref28_Ints 26 [(0, [0, 1]), (1, [0, 1, 10]), (2, [4]), (3, [0, 1, 12, 13]), (4, [0, 1, 12, 13, 14]), (5, [0, 1, 5, 12, 13]), (6, [0, 1, 12, 13, 24]), (7, [4]), (8, [0, 1, 12, 13]), (9, [4])] ir_ref28_Ints [(.tmp 4)] :=
  ⟨Try.f20, _, Try.func20, rfl, by kernel_rfl, rfl, by kernel_rfl, by kernel_rfl⟩

/-- dataenclave/dataenclaveref38.InForce -/
def ir_ref38_InForce : RC :=
  (.seq
   (.reg 0 none [0] [
     ⟨(some 2), none, (.mv (.k (.v (.slice none 0 0))))⟩])
   (.seq
    (.seq
     (.reg 1 none [0, 5] [
       ⟨(some 3), none, (.mv (.t 0))⟩,
       ⟨(some 4), none, (.call (.k (.clo F_ref38_Check [])) [(.t 3)])⟩,
       ⟨(some 5), none, (.bin .neq false (.t 4) (.k (.v (.int .i64 0))))⟩])
     (.cond (.t 5)
      (.seq
       (.reg 2 none [2] [
         ⟨(some 2), none, (.mv (.k (.v (.slice none 0 0))))⟩])
       .ret)
      .skip))
    (.seq
     (.reg 3 none [2] [
       ⟨(some 6), none, (.mv (.t 0))⟩,
       ⟨(some 7), none, (.call (.k (.clo F_ref38_inForce [])) [(.t 6)])⟩,
       ⟨(some 2), none, (.mv (.t 7))⟩])
     .ret)))
theorem fn_ref38_InForce : FnIR Try.prog F_ref38_InForce 8 [(0, [0]), (1, [0, 5]), (2, [2]), (3, [2])] ir_ref38_InForce [(.tmp 2)] :=
  ⟨Try.f21, _, Try.func21, rfl, by kernel_rfl, rfl, by kernel_rfl, by kernel_rfl⟩

/-- dataenclave/register.Add -/
def ir_register_Add : RC :=
  (.seq
   (.reg 0 none [0, 1, 2, 3, 4] [
     ⟨(some 10), none, (.mv (.k (.v (.slice none 0 0))))⟩,
     ⟨(some 11), none, (.mv (.k (.v (.int .i64 0))))⟩])
   (.seq
    (.reg 1 none [0, 1, 2, 3, 4, 12] [
      ⟨(some 16), none, (.mv (.t 0))⟩,
      ⟨(some 17), none, (.call (.k (.clo F_slices_Clone_Entry [])) [(.t 16)])⟩,
      ⟨(some 12), none, (.mv (.t 17))⟩])
    (.seq
     (.seq
      (.reg 2 none [0, 1, 2, 3, 4, 12, 13] [
        ⟨(some 18), none, (.mv (.t 0))⟩,
        ⟨(some 19), none, (.call (.k (.clo F_register_Check [])) [(.t 18)])⟩,
        ⟨(some 13), none, (.mv (.t 19))⟩])
      (.seq
       (.reg 3 none [0, 1, 2, 3, 4, 12, 13, 21] [
         ⟨(some 20), none, (.mv (.t 13))⟩,
         ⟨(some 21), none, (.bin .neq false (.t 20) (.k (.v (.int .i64 0))))⟩])
       (.cond (.t 21)
        (.seq
         (.reg 4 none [10, 11] [
           ⟨(some 22), none, (.mv (.t 12))⟩,
           ⟨(some 23), none, (.mv (.t 13))⟩,
           ⟨(some 10), none, (.mv (.t 22))⟩,
           ⟨(some 11), none, (.mv (.t 23))⟩])
         .ret)
        .skip)))
     (.seq
      (.seq
       (.reg 5 none [0, 1, 2, 3, 4, 12, 26] [
         ⟨(some 24), none, (.mv (.t 0))⟩,
         ⟨(some 25), none, (.lenL (.t 24))⟩,
         ⟨(some 26), none, (.bin .eql false (.t 25) (.k (.v (.int .i64 60))))⟩])
       (.cond (.t 26)
        (.seq
         (.reg 6 none [10, 11] [
           ⟨(some 27), none, (.mv (.t 12))⟩,
           ⟨(some 10), none, (.mv (.t 27))⟩,
           ⟨(some 11), none, (.mv (.k (.v (.int .i64 42))))⟩])
         .ret)
        .skip))
      (.seq
       (.reg 7 none [0, 12, 14] [
         ⟨(some 28), none, (.mv (.t 0))⟩,
         ⟨(some 29), none, (.lenL (.t 28))⟩,
         ⟨(some 30), none, (.bin .add false (.t 29) (.k (.v (.int .i64 1))))⟩,
         ⟨(some 31), none, (.mv (.t 0))⟩,
         ⟨(some 32), none, (.call (.k (.clo F_register_last [])) [(.t 31)])⟩,
         ⟨(some 33), none, (.mv (.t 1))⟩,
         ⟨(some 34), none, (.mv (.t 2))⟩,
         ⟨(some 35), none, (.mv (.t 3))⟩,
         ⟨(some 36), none, (.mv (.t 4))⟩,
         ⟨(some 37), none, (.build [(.v (.int .i64 0)), (.v (.int .u64 0)), (.v (.int .i64 0)), (.v (.int .i64 0)), (.v (.int .i64 0)), (.v (.string ⟨#[]⟩)), (.v (.int .u64 0))] [((0, 1), (.t 30)), ((1, 1), (.t 32)), ((2, 1), (.t 33)), ((3, 1), (.t 34)), ((4, 1), (.t 35)), ((5, 1), (.t 36))])⟩,
         ⟨(some 14), none, (.new (.agg [(.v (.int .i64 0)), (.v (.int .u64 0)), (.v (.int .i64 0)), (.v (.int .i64 0)), (.v (.int .i64 0)), (.v (.string ⟨#[]⟩)), (.v (.int .u64 0))]))⟩,
         ⟨none, none, (.st 7 (.t 14) (.t 37))⟩])
       (.seq
        (.seq
         (.reg 8 none [12, 14, 15] [
           ⟨(some 38), none, (.mv (.t 0))⟩,
           ⟨(some 39), none, (.ld (some 7) (.t 14))⟩,
           ⟨(some 40), none, (.call (.k (.clo F_register_fits [])) [(.t 38), (.t 39)])⟩,
           ⟨(some 15), none, (.mv (.t 40))⟩])
         (.seq
          (.reg 9 none [12, 14, 15, 42] [
            ⟨(some 41), none, (.mv (.t 15))⟩,
            ⟨(some 42), none, (.bin .neq false (.t 41) (.k (.v (.int .i64 0))))⟩])
          (.cond (.t 42)
           (.seq
            (.reg 10 none [10, 11] [
              ⟨(some 43), none, (.mv (.t 12))⟩,
              ⟨(some 44), none, (.mv (.t 15))⟩,
              ⟨(some 10), none, (.mv (.t 43))⟩,
              ⟨(some 11), none, (.mv (.t 44))⟩])
            .ret)
           .skip)))
        (.seq
         (.reg 11 none [12, 14] [
           ⟨(some 45), none, (.ld (some 7) (.t 14))⟩,
           ⟨(some 46), none, (.call (.k (.clo F_register_Link [])) [(.t 45)])⟩,
           ⟨(some 47), none, (.fa 6 (.t 14))⟩,
           ⟨none, none, (.st 1 (.t 47) (.t 46))⟩])
         (.seq
          (.reg 12 none [10, 11] [
            ⟨(some 48), none, (.mv (.t 12))⟩,
            ⟨(some 49), none, (.ld (some 7) (.t 14))⟩,
            ⟨(some 50), none, (.bsl 7 1 [(.t 49)])⟩,
            ⟨(some 51), none, (.app 7 64 false (.t 48) (.t 50))⟩,
            ⟨(some 10), none, (.mv (.t 51))⟩,
            ⟨(some 11), none, (.mv (.k (.v (.int .i64 0))))⟩])
          .ret))))))))
theorem fn_register_Add : FnIR Try.prog F_register_Add 52 [(0, [0, 1, 2, 3, 4]), (1, [0, 1, 2, 3, 4, 12]), (2, [0, 1, 2, 3, 4, 12, 13]), (3, [0, 1, 2, 3, 4, 12, 13, 21]), (4, [10, 11]), (5, [0, 1, 2, 3, 4, 12, 26]), (6, [10, 11]), (7, [0, 12, 14]), (8, [12, 14, 15]), (9, [12, 14, 15, 42]), (10, [10, 11]), (11, [12, 14]), (12, [10, 11])] ir_register_Add [(.tmp 10), (.tmp 11)] :=
  ⟨Try.f22, _, Try.func22, rfl, by kernel_rfl, rfl, by kernel_rfl, by kernel_rfl⟩

/-- dataenclave/dataenclaveref38.Add -/
def ir_ref38_Add : RC :=
  (.seq
   (.reg 0 none [0, 1, 2, 3, 4] [
     ⟨(some 10), none, (.mv (.k (.v (.slice none 0 0))))⟩,
     ⟨(some 11), none, (.mv (.k (.v (.int .i64 0))))⟩])
   (.seq
    (.reg 1 none [0, 1, 2, 3, 4, 12] [
      ⟨(some 16), none, (.bsl 7 0 [])⟩,
      ⟨(some 17), none, (.mv (.t 0))⟩,
      ⟨(some 18), none, (.app 7 64 false (.t 16) (.t 17))⟩,
      ⟨(some 12), none, (.mv (.t 18))⟩])
    (.seq
     (.seq
      (.reg 2 none [0, 1, 2, 3, 4, 12, 13] [
        ⟨(some 19), none, (.mv (.t 0))⟩,
        ⟨(some 20), none, (.call (.k (.clo F_ref38_Check [])) [(.t 19)])⟩,
        ⟨(some 13), none, (.mv (.t 20))⟩])
      (.seq
       (.reg 3 none [0, 1, 2, 3, 4, 12, 13, 22] [
         ⟨(some 21), none, (.mv (.t 13))⟩,
         ⟨(some 22), none, (.bin .neq false (.t 21) (.k (.v (.int .i64 0))))⟩])
       (.cond (.t 22)
        (.seq
         (.reg 4 none [10, 11] [
           ⟨(some 23), none, (.mv (.t 12))⟩,
           ⟨(some 24), none, (.mv (.t 13))⟩,
           ⟨(some 10), none, (.mv (.t 23))⟩,
           ⟨(some 11), none, (.mv (.t 24))⟩])
         .ret)
        .skip)))
     (.seq
      (.seq
       (.reg 5 none [0, 1, 2, 3, 4, 12, 27] [
         ⟨(some 25), none, (.mv (.t 0))⟩,
         ⟨(some 26), none, (.lenL (.t 25))⟩,
         ⟨(some 27), none, (.bin .eql false (.t 26) (.k (.v (.int .i64 60))))⟩])
       (.cond (.t 27)
        (.seq
         (.reg 6 none [10, 11] [
           ⟨(some 28), none, (.mv (.t 12))⟩,
           ⟨(some 10), none, (.mv (.t 28))⟩,
           ⟨(some 11), none, (.mv (.k (.v (.int .i64 42))))⟩])
         .ret)
        .skip))
      (.seq
       (.reg 7 none [0, 12, 14] [
         ⟨(some 29), none, (.mv (.t 0))⟩,
         ⟨(some 30), none, (.lenL (.t 29))⟩,
         ⟨(some 31), none, (.bin .add false (.t 30) (.k (.v (.int .i64 1))))⟩,
         ⟨(some 32), none, (.mv (.t 1))⟩,
         ⟨(some 33), none, (.mv (.t 2))⟩,
         ⟨(some 34), none, (.mv (.t 3))⟩,
         ⟨(some 35), none, (.mv (.t 4))⟩,
         ⟨(some 36), none, (.build [(.v (.int .i64 0)), (.v (.int .u64 0)), (.v (.int .i64 0)), (.v (.int .i64 0)), (.v (.int .i64 0)), (.v (.string ⟨#[]⟩)), (.v (.int .u64 0))] [((0, 1), (.t 31)), ((2, 1), (.t 32)), ((3, 1), (.t 33)), ((4, 1), (.t 34)), ((5, 1), (.t 35))])⟩,
         ⟨(some 14), none, (.new (.agg [(.v (.int .i64 0)), (.v (.int .u64 0)), (.v (.int .i64 0)), (.v (.int .i64 0)), (.v (.int .i64 0)), (.v (.string ⟨#[]⟩)), (.v (.int .u64 0))]))⟩,
         ⟨none, none, (.st 7 (.t 14) (.t 36))⟩])
       (.seq
        (.seq
         (.reg 8 none [0, 12, 14, 39] [
           ⟨(some 37), none, (.mv (.t 0))⟩,
           ⟨(some 38), none, (.lenL (.t 37))⟩,
           ⟨(some 39), none, (.bin .gtr false (.t 38) (.k (.v (.int .i64 0))))⟩])
         (.cond (.t 39)
          (.reg 9 none [0, 12, 14] [
            ⟨(some 40), none, (.mv (.t 0))⟩,
            ⟨(some 41), none, (.mv (.t 0))⟩,
            ⟨(some 42), none, (.lenL (.t 41))⟩,
            ⟨(some 43), none, (.bin .sub false (.t 42) (.k (.v (.int .i64 1))))⟩,
            ⟨(some 44), none, (.ixL 7 (.t 40) (.t 43))⟩,
            ⟨(some 45), none, (.fa 6 (.t 44))⟩,
            ⟨(some 46), none, (.ld none (.t 45))⟩,
            ⟨(some 47), none, (.fa 1 (.t 14))⟩,
            ⟨none, none, (.st 1 (.t 47) (.t 46))⟩])
          .skip))
        (.seq
         (.seq
          (.reg 10 none [12, 14, 15] [
            ⟨(some 48), none, (.mv (.t 0))⟩,
            ⟨(some 49), none, (.ld (some 7) (.t 14))⟩,
            ⟨(some 50), none, (.call (.k (.clo F_ref38_about [])) [(.t 48), (.t 49)])⟩,
            ⟨(some 15), none, (.mv (.t 50))⟩])
          (.seq
           (.reg 11 none [12, 14, 15, 52] [
             ⟨(some 51), none, (.mv (.t 15))⟩,
             ⟨(some 52), none, (.bin .neq false (.t 51) (.k (.v (.int .i64 0))))⟩])
           (.cond (.t 52)
            (.seq
             (.reg 12 none [10, 11] [
               ⟨(some 53), none, (.mv (.t 12))⟩,
               ⟨(some 54), none, (.mv (.t 15))⟩,
               ⟨(some 10), none, (.mv (.t 53))⟩,
               ⟨(some 11), none, (.mv (.t 54))⟩])
             .ret)
            .skip)))
         (.seq
          (.reg 13 none [12, 14] [
            ⟨(some 55), none, (.ld (some 7) (.t 14))⟩,
            ⟨(some 56), none, (.call (.k (.clo F_ref38_Link [])) [(.t 55)])⟩,
            ⟨(some 57), none, (.fa 6 (.t 14))⟩,
            ⟨none, none, (.st 1 (.t 57) (.t 56))⟩])
          (.seq
           (.reg 14 none [10, 11] [
             ⟨(some 58), none, (.mv (.t 12))⟩,
             ⟨(some 59), none, (.ld (some 7) (.t 14))⟩,
             ⟨(some 60), none, (.bsl 7 1 [(.t 59)])⟩,
             ⟨(some 61), none, (.app 7 64 false (.t 58) (.t 60))⟩,
             ⟨(some 10), none, (.mv (.t 61))⟩,
             ⟨(some 11), none, (.mv (.k (.v (.int .i64 0))))⟩])
           .ret)))))))))
theorem fn_ref38_Add : FnIR Try.prog F_ref38_Add 62 [(0, [0, 1, 2, 3, 4]), (1, [0, 1, 2, 3, 4, 12]), (2, [0, 1, 2, 3, 4, 12, 13]), (3, [0, 1, 2, 3, 4, 12, 13, 22]), (4, [10, 11]), (5, [0, 1, 2, 3, 4, 12, 27]), (6, [10, 11]), (7, [0, 12, 14]), (8, [0, 12, 14, 39]), (9, [0, 12, 14]), (10, [12, 14, 15]), (11, [12, 14, 15, 52]), (12, [10, 11]), (13, [12, 14]), (14, [10, 11])] ir_ref38_Add [(.tmp 10), (.tmp 11)] :=
  ⟨Try.f23, _, Try.func23, rfl, by kernel_rfl, rfl, by kernel_rfl, by kernel_rfl⟩

/-- dataenclave/dataenclaveref38.Same -/
def ir_ref38_Same : RC :=
  (.seq
   (.reg 0 none [0, 1] [
     ⟨(some 4), none, (.mv (.k (.v (.bool false))))⟩])
   (.seq
    (.seq
     (.reg 1 none [0, 1, 10] [
       ⟨(some 6), none, (.mv (.t 0))⟩,
       ⟨(some 7), none, (.lenL (.t 6))⟩,
       ⟨(some 8), none, (.mv (.t 1))⟩,
       ⟨(some 9), none, (.lenL (.t 8))⟩,
       ⟨(some 10), none, (.bin .neq false (.t 7) (.t 9))⟩])
     (.cond (.t 10)
      (.seq
       (.reg 2 none [4] [
         ⟨(some 4), none, (.mv (.k (.v (.bool false))))⟩])
       .ret)
      .skip))
    (.seq
     (.seq
      (.reg 3 none [0, 1, 12, 13] [
        ⟨(some 11), none, (.mv (.t 0))⟩,
        ⟨(some 12), none, (.lenL (.t 11))⟩,
        ⟨(some 13), none, (.mv (.k (.v (.int .i64 0))))⟩])
      (.block 0
       (.loop
        (.seq
         (.reg 4 none [0, 1, 12, 13, 14] [
           ⟨(some 14), none, (.bin .lss false (.t 13) (.t 12))⟩])
         (.seq
          (.cond (.t 14)
           .skip
           (.exit 0))
          (.seq
           (.block 1
            (.seq
             (.reg 5 none [0, 1, 5, 12, 13] [
               ⟨(some 15), none, (.mv (.t 13))⟩,
               ⟨(some 5), none, (.mv (.t 15))⟩])
             (.seq
              (.reg 6 (some [0, 0, 3, 7, 0, 0, 48, 112, 255]) [0, 1, 12, 13, 24] [
                ⟨(some 16), none, (.mv (.t 0))⟩,
                ⟨(some 17), none, (.mv (.t 5))⟩,
                ⟨(some 18), none, (.ixL 7 (.t 16) (.t 17))⟩,
                ⟨(some 19), none, (.ld (some 7) (.t 18))⟩,
                ⟨(some 20), none, (.mv (.t 1))⟩,
                ⟨(some 21), none, (.mv (.t 5))⟩,
                ⟨(some 22), none, (.ixL 7 (.t 20) (.t 21))⟩,
                ⟨(some 23), none, (.ld (some 7) (.t 22))⟩,
                ⟨(some 24), none, (.ext (.eqS true [(.i .i64), (.i .u64), (.i .i64), (.i .i64), (.i .i64), .s, (.i .u64)]) [(.t 19), (.t 23)])⟩])
              (.cond (.t 24)
               (.seq
                (.reg 7 none [4] [
                  ⟨(some 4), none, (.mv (.k (.v (.bool false))))⟩])
                .ret)
               .skip))))
           (.reg 8 none [0, 1, 12, 13] [
             ⟨(some 25), none, (.bin .add false (.t 13) (.k (.v (.int .i64 1))))⟩,
             ⟨(some 13), none, (.mv (.t 25))⟩])))))))
     (.seq
      (.reg 9 none [4] [
        ⟨(some 4), none, (.mv (.k (.v (.bool true))))⟩])
      .ret))))
theorem fn_ref38_Same : FnIR Try.prog F_ref38_Same 26 [(0, [0, 1]), (1, [0, 1, 10]), (2, [4]), (3, [0, 1, 12, 13]), (4, [0, 1, 12, 13, 14]), (5, [0, 1, 5, 12, 13]), (6, [0, 1, 12, 13, 24]), (7, [4]), (8, [0, 1, 12, 13]), (9, [4])] ir_ref38_Same [(.tmp 4)] :=
  ⟨Try.f24, _, Try.func24, rfl, by kernel_rfl, rfl, by kernel_rfl, by kernel_rfl⟩

/-- dataenclave/dataenclaveref38.History -/
def ir_ref38_History : RC :=
  (.seq
   (.reg 0 none [0, 1] [
     ⟨(some 4), none, (.mv (.k (.v (.slice none 0 0))))⟩,
     ⟨(some 5), none, (.mv (.k (.v (.int .i64 0))))⟩])
   (.seq
    (.seq
     (.reg 1 none [0, 1, 6] [
       ⟨(some 8), none, (.mv (.t 0))⟩,
       ⟨(some 9), none, (.call (.k (.clo F_ref38_Check [])) [(.t 8)])⟩,
       ⟨(some 6), none, (.mv (.t 9))⟩])
     (.seq
      (.reg 2 none [0, 1, 6, 11] [
        ⟨(some 10), none, (.mv (.t 6))⟩,
        ⟨(some 11), none, (.bin .neq false (.t 10) (.k (.v (.int .i64 0))))⟩])
      (.cond (.t 11)
       (.seq
        (.reg 3 none [4, 5] [
          ⟨(some 12), none, (.mv (.t 6))⟩,
          ⟨(some 4), none, (.mv (.k (.v (.slice none 0 0))))⟩,
          ⟨(some 5), none, (.mv (.t 12))⟩])
        .ret)
       .skip)))
    (.seq
     (.seq
      (.reg 4 none [0, 1, 29] [
        ⟨(some 13), none, (.mv (.t 1))⟩,
        ⟨(some 14), none, (.bin .lss false (.t 13) (.k (.v (.int .i64 1))))⟩,
        ⟨(some 15), none, (.mv (.t 14))⟩,
        ⟨(some 16), (some (15, false)), (.mv (.t 1))⟩,
        ⟨(some 17), (some (15, false)), (.mv (.t 0))⟩,
        ⟨(some 18), (some (15, false)), (.lenL (.t 17))⟩,
        ⟨(some 19), (some (15, false)), (.bin .gtr false (.t 16) (.t 18))⟩,
        ⟨(some 20), none, (.pick (.t 15) (.k (.v (.bool true))) (.t 19))⟩,
        ⟨(some 21), none, (.mv (.t 20))⟩,
        ⟨(some 22), (some (21, false)), (.mv (.t 0))⟩,
        ⟨(some 23), (some (21, false)), (.mv (.t 1))⟩,
        ⟨(some 24), (some (21, false)), (.bin .sub false (.t 23) (.k (.v (.int .i64 1))))⟩,
        ⟨(some 25), (some (21, false)), (.ixL 7 (.t 22) (.t 24))⟩,
        ⟨(some 26), (some (21, false)), (.fa 2 (.t 25))⟩,
        ⟨(some 27), (some (21, false)), (.ld none (.t 26))⟩,
        ⟨(some 28), (some (21, false)), (.bin .eql false (.t 27) (.k (.v (.int .i64 2))))⟩,
        ⟨(some 29), none, (.pick (.t 21) (.k (.v (.bool true))) (.t 28))⟩])
      (.cond (.t 29)
       (.seq
        (.reg 5 none [4, 5] [
          ⟨(some 4), none, (.mv (.k (.v (.slice none 0 0))))⟩,
          ⟨(some 5), none, (.mv (.k (.v (.int .i64 48))))⟩])
        .ret)
       .skip))
     (.seq
      (.reg 6 none [0, 1, 7] [
        ⟨(some 30), none, (.mv (.t 1))⟩,
        ⟨(some 31), none, (.bsl 1 1 [(.t 30)])⟩,
        ⟨(some 7), none, (.mv (.t 31))⟩])
      (.seq
       (.block 0
        (.loop
         (.seq
          (.seq
           (.reg 7 none [0, 1, 7, 38] [
             ⟨(some 32), none, (.mv (.t 0))⟩,
             ⟨(some 33), none, (.mv (.t 1))⟩,
             ⟨(some 34), none, (.bin .sub false (.t 33) (.k (.v (.int .i64 1))))⟩,
             ⟨(some 35), none, (.ixL 7 (.t 32) (.t 34))⟩,
             ⟨(some 36), none, (.fa 2 (.t 35))⟩,
             ⟨(some 37), none, (.ld none (.t 36))⟩,
             ⟨(some 38), none, (.bin .eql false (.t 37) (.k (.v (.int .i64 3))))⟩])
           (.cond (.t 38)
            .skip
            (.exit 0)))
          (.block 1
           (.seq
            (.reg 8 none [0, 1, 7] [
              ⟨(some 39), none, (.mv (.t 0))⟩,
              ⟨(some 40), none, (.mv (.t 1))⟩,
              ⟨(some 41), none, (.bin .sub false (.t 40) (.k (.v (.int .i64 1))))⟩,
              ⟨(some 42), none, (.ixL 7 (.t 39) (.t 41))⟩,
              ⟨(some 43), none, (.fa 3 (.t 42))⟩,
              ⟨(some 44), none, (.ld none (.t 43))⟩,
              ⟨(some 1), none, (.mv (.t 44))⟩])
            (.reg 9 none [0, 1, 7] [
              ⟨(some 45), none, (.mv (.t 7))⟩,
              ⟨(some 46), none, (.mv (.t 1))⟩,
              ⟨(some 47), none, (.bsl 1 1 [(.t 46)])⟩,
              ⟨(some 48), none, (.app 1 8 false (.t 45) (.t 47))⟩,
              ⟨(some 7), none, (.mv (.t 48))⟩]))))))
       (.seq
        (.reg 10 none [4, 5] [
          ⟨(some 49), none, (.mv (.t 7))⟩,
          ⟨(some 4), none, (.mv (.t 49))⟩,
          ⟨(some 5), none, (.mv (.k (.v (.int .i64 0))))⟩])
        .ret))))))
theorem fn_ref38_History : FnIR Try.prog F_ref38_History 50 [(0, [0, 1]), (1, [0, 1, 6]), (2, [0, 1, 6, 11]), (3, [4, 5]), (4, [0, 1, 29]), (5, [4, 5]), (6, [0, 1, 7]), (7, [0, 1, 7, 38]), (8, [0, 1, 7]), (9, [0, 1, 7]), (10, [4, 5])] ir_ref38_History [(.tmp 4), (.tmp 5)] :=
  ⟨Try.f25, _, Try.func25, rfl, by kernel_rfl, rfl, by kernel_rfl, by kernel_rfl⟩

/-- dataenclave/register.Find -/
def ir_register_Find : RC :=
  (.seq
   (.reg 0 none [0, 1] [
     ⟨(some 4), none, (.mv (.k (.v (.int .i64 0))))⟩])
   (.seq
    (.seq
     (.reg 1 none [0, 1, 9] [
       ⟨(some 7), none, (.mv (.t 0))⟩,
       ⟨(some 8), none, (.call (.k (.clo F_register_Check [])) [(.t 7)])⟩,
       ⟨(some 9), none, (.bin .neq false (.t 8) (.k (.v (.int .i64 0))))⟩])
     (.cond (.t 9)
      (.seq
       (.reg 2 none [4] [
         ⟨(some 4), none, (.mv (.k (.v (.int .i64 0))))⟩])
       .ret)
      .skip))
    (.seq
     (.seq
      (.reg 3 none [1, 10, 11, 12] [
        ⟨(some 10), none, (.mv (.t 0))⟩,
        ⟨(some 11), none, (.lenL (.t 10))⟩,
        ⟨(some 12), none, (.mv (.k (.v (.int .i64 0))))⟩])
      (.block 0
       (.loop
        (.seq
         (.reg 4 none [1, 10, 11, 12, 13] [
           ⟨(some 13), none, (.bin .lss false (.t 12) (.t 11))⟩])
         (.seq
          (.cond (.t 13)
           .skip
           (.exit 0))
          (.seq
           (.block 1
            (.seq
             (.reg 5 none [1, 6, 10, 11, 12] [
               ⟨(some 14), none, (.ixL 7 (.t 10) (.t 12))⟩,
               ⟨(some 15), none, (.ld (some 7) (.t 14))⟩,
               ⟨(some 6), none, (.new (.agg [(.v (.int .i64 0)), (.v (.int .u64 0)), (.v (.int .i64 0)), (.v (.int .i64 0)), (.v (.int .i64 0)), (.v (.string ⟨#[]⟩)), (.v (.int .u64 0))]))⟩,
               ⟨none, none, (.st 7 (.t 6) (.t 15))⟩])
             (.seq
              (.reg 6 none [1, 6, 10, 11, 12, 23] [
                ⟨(some 16), none, (.ld (some 7) (.t 6))⟩,
                ⟨(some 17), none, (.call (.k (.clo F_register_releases [])) [(.t 16)])⟩,
                ⟨(some 18), none, (.mv (.t 17))⟩,
                ⟨(some 19), (some (18, true)), (.fa 4 (.t 6))⟩,
                ⟨(some 20), (some (18, true)), (.ld none (.t 19))⟩,
                ⟨(some 21), (some (18, true)), (.mv (.t 1))⟩,
                ⟨(some 22), (some (18, true)), (.bin .eql false (.t 20) (.t 21))⟩,
                ⟨(some 23), none, (.pick (.t 18) (.t 22) (.k (.v (.bool false))))⟩])
              (.cond (.t 23)
               (.seq
                (.reg 7 none [4] [
                  ⟨(some 24), none, (.fa 0 (.t 6))⟩,
                  ⟨(some 25), none, (.ld none (.t 24))⟩,
                  ⟨(some 4), none, (.mv (.t 25))⟩])
                .ret)
               .skip))))
           (.reg 8 none [1, 10, 11, 12] [
             ⟨(some 26), none, (.bin .add false (.t 12) (.k (.v (.int .i64 1))))⟩,
             ⟨(some 12), none, (.mv (.t 26))⟩])))))))
     (.seq
      (.reg 9 none [4] [
        ⟨(some 4), none, (.mv (.k (.v (.int .i64 0))))⟩])
      .ret))))
theorem fn_register_Find : FnIR Try.prog F_register_Find 27 [(0, [0, 1]), (1, [0, 1, 9]), (2, [4]), (3, [1, 10, 11, 12]), (4, [1, 10, 11, 12, 13]), (5, [1, 6, 10, 11, 12]), (6, [1, 6, 10, 11, 12, 23]), (7, [4]), (8, [1, 10, 11, 12]), (9, [4])] ir_register_Find [(.tmp 4)] :=
  ⟨Try.f26, _, Try.func26, rfl, by kernel_rfl, rfl, by kernel_rfl, by kernel_rfl⟩

/-- dataenclave/dataenclaveref38.Find -/
def ir_ref38_Find : RC :=
  (.seq
   (.reg 0 none [0, 1] [
     ⟨(some 4), none, (.mv (.k (.v (.int .i64 0))))⟩])
   (.seq
    (.seq
     (.reg 1 none [0, 1, 13] [
       ⟨(some 7), none, (.mv (.t 0))⟩,
       ⟨(some 8), none, (.call (.k (.clo F_ref38_Check [])) [(.t 7)])⟩,
       ⟨(some 9), none, (.bin .neq false (.t 8) (.k (.v (.int .i64 0))))⟩,
       ⟨(some 10), none, (.mv (.t 9))⟩,
       ⟨(some 11), (some (10, false)), (.mv (.t 1))⟩,
       ⟨(some 12), (some (10, false)), (.bin .lss false (.t 11) (.k (.v (.int .i64 1))))⟩,
       ⟨(some 13), none, (.pick (.t 10) (.k (.v (.bool true))) (.t 12))⟩])
     (.cond (.t 13)
      (.seq
       (.reg 2 none [4] [
         ⟨(some 4), none, (.mv (.k (.v (.int .i64 0))))⟩])
       .ret)
      .skip))
    (.seq
     (.seq
      (.reg 3 none [1, 14, 15, 16] [
        ⟨(some 14), none, (.mv (.t 0))⟩,
        ⟨(some 15), none, (.lenL (.t 14))⟩,
        ⟨(some 16), none, (.mv (.k (.v (.int .i64 0))))⟩])
      (.block 0
       (.loop
        (.seq
         (.reg 4 none [1, 14, 15, 16, 17] [
           ⟨(some 17), none, (.bin .lss false (.t 16) (.t 15))⟩])
         (.seq
          (.cond (.t 17)
           .skip
           (.exit 0))
          (.seq
           (.block 1
            (.seq
             (.reg 5 none [1, 6, 14, 15, 16] [
               ⟨(some 18), none, (.ixL 7 (.t 14) (.t 16))⟩,
               ⟨(some 19), none, (.ld (some 7) (.t 18))⟩,
               ⟨(some 6), none, (.new (.agg [(.v (.int .i64 0)), (.v (.int .u64 0)), (.v (.int .i64 0)), (.v (.int .i64 0)), (.v (.int .i64 0)), (.v (.string ⟨#[]⟩)), (.v (.int .u64 0))]))⟩,
               ⟨none, none, (.st 7 (.t 6) (.t 19))⟩])
             (.seq
              (.reg 6 none [1, 6, 14, 15, 16, 23] [
                ⟨(some 20), none, (.fa 4 (.t 6))⟩,
                ⟨(some 21), none, (.ld none (.t 20))⟩,
                ⟨(some 22), none, (.mv (.t 1))⟩,
                ⟨(some 23), none, (.bin .eql false (.t 21) (.t 22))⟩])
              (.cond (.t 23)
               (.seq
                (.reg 7 none [4] [
                  ⟨(some 24), none, (.fa 0 (.t 6))⟩,
                  ⟨(some 25), none, (.ld none (.t 24))⟩,
                  ⟨(some 4), none, (.mv (.t 25))⟩])
                .ret)
               .skip))))
           (.reg 8 none [1, 14, 15, 16] [
             ⟨(some 26), none, (.bin .add false (.t 16) (.k (.v (.int .i64 1))))⟩,
             ⟨(some 16), none, (.mv (.t 26))⟩])))))))
     (.seq
      (.reg 9 none [4] [
        ⟨(some 4), none, (.mv (.k (.v (.int .i64 0))))⟩])
      .ret))))
theorem fn_ref38_Find : FnIR Try.prog F_ref38_Find 27 [(0, [0, 1]), (1, [0, 1, 13]), (2, [4]), (3, [1, 14, 15, 16]), (4, [1, 14, 15, 16, 17]), (5, [1, 6, 14, 15, 16]), (6, [1, 6, 14, 15, 16, 23]), (7, [4]), (8, [1, 14, 15, 16]), (9, [4])] ir_ref38_Find [(.tmp 4)] :=
  ⟨Try.f27, _, Try.func27, rfl, by kernel_rfl, rfl, by kernel_rfl, by kernel_rfl⟩

/-- (*dataenclave/dataenclavedraw.Codes).Next -/
def ir_draw_Codes_Next : RC :=
  (.seq
   (.reg 0 none [0, 1] [
     ⟨(some 4), none, (.mv (.k (.v (.int .i64 0))))⟩])
   (.seq
    (.seq
     (.reg 1 (some [0, 1, 3, 7, 15, 31, 63, 7, 135, 391, 903, 1927, 4095, 8191]) [0, 1, 19] [
       ⟨(some 6), none, (.mv (.t 1))⟩,
       ⟨(some 7), none, (.bin .lss false (.t 6) (.k (.v (.int .i64 1))))⟩,
       ⟨(some 8), none, (.mv (.t 7))⟩,
       ⟨(some 9), (some (8, false)), (.mv (.t 0))⟩,
       ⟨(some 10), (some (8, false)), (.nc (.t 9))⟩,
       ⟨(some 11), (some (8, false)), (.fa 1 (.t 10))⟩,
       ⟨(some 12), (some (8, false)), (.ld none (.t 11))⟩,
       ⟨(some 13), (some (8, false)), (.mv (.t 0))⟩,
       ⟨(some 14), (some (8, false)), (.nc (.t 13))⟩,
       ⟨(some 15), (some (8, false)), (.fa 0 (.t 14))⟩,
       ⟨(some 16), (some (8, false)), (.ld none (.t 15))⟩,
       ⟨(some 17), (some (8, false)), (.lenL (.t 16))⟩,
       ⟨(some 18), (some (8, false)), (.bin .geq false (.t 12) (.t 17))⟩,
       ⟨(some 19), none, (.pick (.t 8) (.k (.v (.bool true))) (.t 18))⟩])
     (.cond (.t 19)
      (.seq
       (.reg 2 none [4] [
         ⟨(some 4), none, (.mv (.k (.v (.int .i64 0))))⟩])
       .ret)
      .skip))
    (.seq
     (.reg 3 none [0, 1] [
       ⟨(some 20), none, (.mv (.t 0))⟩,
       ⟨(some 21), none, (.nc (.t 20))⟩,
       ⟨(some 22), none, (.fa 1 (.t 21))⟩,
       ⟨(some 23), none, (.ld none (.t 22))⟩,
       ⟨(some 24), none, (.bin .add false (.t 23) (.k (.v (.int .i64 1))))⟩,
       ⟨(some 25), none, (.nc (.t 20))⟩,
       ⟨(some 26), none, (.fa 1 (.t 25))⟩,
       ⟨none, none, (.st 1 (.t 26) (.t 24))⟩])
     (.seq
      (.reg 4 (some [0, 1, 3, 7, 0, 16, 48, 112, 240, 511, 1023, 2047, 4095]) [0, 1, 5] [
        ⟨(some 27), none, (.mv (.t 0))⟩,
        ⟨(some 28), none, (.nc (.t 27))⟩,
        ⟨(some 29), none, (.fa 0 (.t 28))⟩,
        ⟨(some 30), none, (.ld none (.t 29))⟩,
        ⟨(some 31), none, (.mv (.t 0))⟩,
        ⟨(some 32), none, (.nc (.t 31))⟩,
        ⟨(some 33), none, (.fa 1 (.t 32))⟩,
        ⟨(some 34), none, (.ld none (.t 33))⟩,
        ⟨(some 35), none, (.bin .sub false (.t 34) (.k (.v (.int .i64 1))))⟩,
        ⟨(some 36), none, (.ixL 1 (.t 30) (.t 35))⟩,
        ⟨(some 37), none, (.ld none (.t 36))⟩,
        ⟨(some 38), none, (.cvI .i64 (.t 37))⟩,
        ⟨(some 5), none, (.mv (.t 38))⟩])
      (.seq
       (.seq
        (.reg 5 (some [0, 1, 3, 7, 15, 31, 63, 7, 135, 391, 903, 1927, 4095, 8191]) [0, 1, 5, 52] [
          ⟨(some 39), none, (.mv (.t 1))⟩,
          ⟨(some 40), none, (.bin .gtr false (.t 39) (.k (.v (.int .i64 256))))⟩,
          ⟨(some 41), none, (.mv (.t 40))⟩,
          ⟨(some 42), (some (41, true)), (.mv (.t 0))⟩,
          ⟨(some 43), (some (41, true)), (.nc (.t 42))⟩,
          ⟨(some 44), (some (41, true)), (.fa 1 (.t 43))⟩,
          ⟨(some 45), (some (41, true)), (.ld none (.t 44))⟩,
          ⟨(some 46), (some (41, true)), (.mv (.t 0))⟩,
          ⟨(some 47), (some (41, true)), (.nc (.t 46))⟩,
          ⟨(some 48), (some (41, true)), (.fa 0 (.t 47))⟩,
          ⟨(some 49), (some (41, true)), (.ld none (.t 48))⟩,
          ⟨(some 50), (some (41, true)), (.lenL (.t 49))⟩,
          ⟨(some 51), (some (41, true)), (.bin .lss false (.t 45) (.t 50))⟩,
          ⟨(some 52), none, (.pick (.t 41) (.t 51) (.k (.v (.bool false))))⟩])
        (.cond (.t 52)
         (.seq
          (.reg 6 (some [0, 1, 0, 4, 12, 28, 0, 64, 192, 448, 1020, 2044, 4092, 8191, 16383]) [0, 1, 5] [
            ⟨(some 53), none, (.mv (.t 5))⟩,
            ⟨(some 54), none, (.bin .mul false (.t 53) (.k (.v (.int .i64 256))))⟩,
            ⟨(some 55), none, (.mv (.t 0))⟩,
            ⟨(some 56), none, (.nc (.t 55))⟩,
            ⟨(some 57), none, (.fa 0 (.t 56))⟩,
            ⟨(some 58), none, (.ld none (.t 57))⟩,
            ⟨(some 59), none, (.mv (.t 0))⟩,
            ⟨(some 60), none, (.nc (.t 59))⟩,
            ⟨(some 61), none, (.fa 1 (.t 60))⟩,
            ⟨(some 62), none, (.ld none (.t 61))⟩,
            ⟨(some 63), none, (.ixL 1 (.t 58) (.t 62))⟩,
            ⟨(some 64), none, (.ld none (.t 63))⟩,
            ⟨(some 65), none, (.cvI .i64 (.t 64))⟩,
            ⟨(some 66), none, (.bin .add false (.t 54) (.t 65))⟩,
            ⟨(some 5), none, (.mv (.t 66))⟩])
          (.reg 7 none [1, 5] [
            ⟨(some 67), none, (.mv (.t 0))⟩,
            ⟨(some 68), none, (.nc (.t 67))⟩,
            ⟨(some 69), none, (.fa 1 (.t 68))⟩,
            ⟨(some 70), none, (.ld none (.t 69))⟩,
            ⟨(some 71), none, (.bin .add false (.t 70) (.k (.v (.int .i64 1))))⟩,
            ⟨(some 72), none, (.nc (.t 67))⟩,
            ⟨(some 73), none, (.fa 1 (.t 72))⟩,
            ⟨none, none, (.st 1 (.t 73) (.t 71))⟩]))
         .skip))
       (.seq
        (.reg 8 none [4] [
          ⟨(some 74), none, (.mv (.t 5))⟩,
          ⟨(some 75), none, (.mv (.t 1))⟩,
          ⟨(some 76), none, (.bin .rem false (.t 74) (.t 75))⟩,
          ⟨(some 4), none, (.mv (.t 76))⟩])
        .ret))))))
theorem fn_draw_Codes_Next : FnIR Try.prog F_draw_Codes_Next 77 [(0, [0, 1]), (1, [0, 1, 19]), (2, [4]), (3, [0, 1]), (4, [0, 1, 5]), (5, [0, 1, 5, 52]), (6, [0, 1, 5]), (7, [1, 5]), (8, [4])] ir_draw_Codes_Next [(.tmp 4)] :=
  ⟨Try.f28, _, Try.func28, rfl, by kernel_rfl, rfl, by kernel_rfl, by kernel_rfl⟩

/-- (*dataenclave/dataenclavedraw.Codes).Range -/
def ir_draw_Codes_Range : RC :=
  (.seq
   (.reg 0 none [0, 1, 2] [
     ⟨(some 6), none, (.mv (.k (.v (.int .i64 0))))⟩])
   (.seq
    (.reg 1 none [6] [
      ⟨(some 7), none, (.mv (.t 1))⟩,
      ⟨(some 8), none, (.mv (.t 0))⟩,
      ⟨(some 9), none, (.mv (.t 2))⟩,
      ⟨(some 10), none, (.mv (.t 1))⟩,
      ⟨(some 11), none, (.bin .sub false (.t 9) (.t 10))⟩,
      ⟨(some 12), none, (.bin .add false (.t 11) (.k (.v (.int .i64 1))))⟩,
      ⟨(some 13), none, (.call (.k (.clo F_draw_Codes_Next [])) [(.t 8), (.t 12)])⟩,
      ⟨(some 14), none, (.bin .add false (.t 7) (.t 13))⟩,
      ⟨(some 6), none, (.mv (.t 14))⟩])
    .ret))
theorem fn_draw_Codes_Range : FnIR Try.prog F_draw_Codes_Range 15 [(0, [0, 1, 2]), (1, [6])] ir_draw_Codes_Range [(.tmp 6)] :=
  ⟨Try.f29, _, Try.func29, rfl, by kernel_rfl, rfl, by kernel_rfl, by kernel_rfl⟩

/-- dataenclave/register.last -/
def ir_register_last : RC :=
  (.seq
   (.reg 0 none [0] [
     ⟨(some 2), none, (.mv (.k (.v (.int .u64 0))))⟩])
   (.seq
    (.seq
     (.reg 1 none [0, 5] [
       ⟨(some 3), none, (.mv (.t 0))⟩,
       ⟨(some 4), none, (.lenL (.t 3))⟩,
       ⟨(some 5), none, (.bin .eql false (.t 4) (.k (.v (.int .i64 0))))⟩])
     (.cond (.t 5)
      (.seq
       (.reg 2 none [2] [
         ⟨(some 2), none, (.mv (.k (.v (.int .u64 0))))⟩])
       .ret)
      .skip))
    (.seq
     (.reg 3 none [2] [
       ⟨(some 6), none, (.mv (.t 0))⟩,
       ⟨(some 7), none, (.mv (.t 0))⟩,
       ⟨(some 8), none, (.lenL (.t 7))⟩,
       ⟨(some 9), none, (.bin .sub false (.t 8) (.k (.v (.int .i64 1))))⟩,
       ⟨(some 10), none, (.ixL 7 (.t 6) (.t 9))⟩,
       ⟨(some 11), none, (.fa 6 (.t 10))⟩,
       ⟨(some 12), none, (.ld none (.t 11))⟩,
       ⟨(some 2), none, (.mv (.t 12))⟩])
     .ret)))
theorem fn_register_last : FnIR Try.prog F_register_last 13 [(0, [0]), (1, [0, 5]), (2, [2]), (3, [2])] ir_register_last [(.tmp 2)] :=
  ⟨Try.f30, _, Try.func30, rfl, by kernel_rfl, rfl, by kernel_rfl, by kernel_rfl⟩

/-- dataenclave/register.fits -/
def ir_register_fits : RC :=
  (.seq
   (.reg 0 none [0, 3] [
     ⟨(some 3), none, (.box (.t 1))⟩,
     ⟨(some 4), none, (.mv (.k (.v (.int .i64 0))))⟩])
   (.seq
    (.reg 1 none [0, 3, 5] [
      ⟨(some 6), none, (.mv (.t 0))⟩,
      ⟨(some 7), none, (.mf F_register_fits_1 [(.t 3)])⟩,
      ⟨(some 8), none, (.call (.k (.clo F_slices_ContainsFunc_Entry [])) [(.t 6), (.t 7)])⟩,
      ⟨(some 5), none, (.mv (.t 8))⟩])
    (.seq
     (.block 0
      (.seq
       (.reg 2 none [0, 3, 5, 9] [
         ⟨(some 10), none, (.fa 5 (.t 3))⟩,
         ⟨(some 11), none, (.ld none (.t 10))⟩,
         ⟨(some 12), none, (.lenS (.t 11))⟩,
         ⟨(some 13), none, (.bin .gtr false (.t 12) (.k (.v (.int .i64 4096))))⟩,
         ⟨(some 9), none, (.mv (.t 13))⟩])
       (.cond (.t 9)
        (.seq
         (.reg 3 none [4] [
           ⟨(some 4), none, (.mv (.k (.v (.int .i64 1))))⟩])
         .ret)
        (.seq
         (.reg 4 none [0, 3, 5, 14] [
           ⟨(some 15), none, (.fa 2 (.t 3))⟩,
           ⟨(some 16), none, (.ld none (.t 15))⟩,
           ⟨(some 17), none, (.bin .lss false (.t 16) (.k (.v (.int .i64 1))))⟩,
           ⟨(some 18), none, (.mv (.t 17))⟩,
           ⟨(some 19), (some (18, false)), (.fa 2 (.t 3))⟩,
           ⟨(some 20), (some (18, false)), (.ld none (.t 19))⟩,
           ⟨(some 21), (some (18, false)), (.bin .gtr false (.t 20) (.k (.v (.int .i64 3))))⟩,
           ⟨(some 22), none, (.pick (.t 18) (.k (.v (.bool true))) (.t 21))⟩,
           ⟨(some 14), none, (.mv (.t 22))⟩])
         (.cond (.t 14)
          (.seq
           (.reg 5 none [4] [
             ⟨(some 4), none, (.mv (.k (.v (.int .i64 4))))⟩])
           .ret)
          (.seq
           (.reg 6 (some [0, 1, 3, 7, 15, 31, 15, 79, 255, 511, 1023, 2047]) [3, 5, 23] [
             ⟨(some 24), none, (.fa 2 (.t 3))⟩,
             ⟨(some 25), none, (.ld none (.t 24))⟩,
             ⟨(some 26), none, (.bin .neq false (.t 25) (.k (.v (.int .i64 1))))⟩,
             ⟨(some 27), none, (.mv (.t 26))⟩,
             ⟨(some 28), (some (27, true)), (.mv (.t 0))⟩,
             ⟨(some 29), (some (27, true)), (.call (.k (.clo F_register_standing [])) [(.t 28)])⟩,
             ⟨(some 30), (some (27, true)), (.fa 3 (.t 3))⟩,
             ⟨(some 31), (some (27, true)), (.ld none (.t 30))⟩,
             ⟨(some 32), (some (27, true)), (.call (.k (.clo F_slices_Contains_int [])) [(.t 29), (.t 31)])⟩,
             ⟨(some 33), (some (27, true)), (.un .not (.t 32))⟩,
             ⟨(some 34), none, (.pick (.t 27) (.t 33) (.k (.v (.bool false))))⟩,
             ⟨(some 23), none, (.mv (.t 34))⟩])
           (.cond (.t 23)
            (.seq
             (.reg 7 none [4] [
               ⟨(some 4), none, (.mv (.k (.v (.int .i64 56))))⟩])
             .ret)
            (.seq
             (.reg 8 none [3, 5, 35] [
               ⟨(some 36), none, (.fa 2 (.t 3))⟩,
               ⟨(some 37), none, (.ld none (.t 36))⟩,
               ⟨(some 38), none, (.bin .eql false (.t 37) (.k (.v (.int .i64 1))))⟩,
               ⟨(some 39), none, (.mv (.t 38))⟩,
               ⟨(some 40), (some (39, true)), (.fa 3 (.t 3))⟩,
               ⟨(some 41), (some (39, true)), (.ld none (.t 40))⟩,
               ⟨(some 42), (some (39, true)), (.bin .neq false (.t 41) (.k (.v (.int .i64 0))))⟩,
               ⟨(some 43), none, (.pick (.t 39) (.t 42) (.k (.v (.bool false))))⟩,
               ⟨(some 35), none, (.mv (.t 43))⟩])
             (.cond (.t 35)
              (.seq
               (.reg 9 none [4] [
                 ⟨(some 4), none, (.mv (.k (.v (.int .i64 11))))⟩])
               .ret)
              (.seq
               (.reg 10 none [3, 5, 44] [
                 ⟨(some 45), none, (.fa 2 (.t 3))⟩,
                 ⟨(some 46), none, (.ld none (.t 45))⟩,
                 ⟨(some 47), none, (.bin .eql false (.t 46) (.k (.v (.int .i64 2))))⟩,
                 ⟨(some 48), none, (.mv (.t 47))⟩,
                 ⟨(some 49), (some (48, true)), (.fa 4 (.t 3))⟩,
                 ⟨(some 50), (some (48, true)), (.ld none (.t 49))⟩,
                 ⟨(some 51), (some (48, true)), (.bin .neq false (.t 50) (.k (.v (.int .i64 0))))⟩,
                 ⟨(some 52), (some (48, true)), (.mv (.t 51))⟩,
                 ⟨(some 53), (some (52, false)), (.fa 5 (.t 3))⟩,
                 ⟨(some 54), (some (52, false)), (.ld none (.t 53))⟩,
                 ⟨(some 55), (some (52, false)), (.bin .neq false (.t 54) (.k (.v (.string ⟨#[]⟩))))⟩,
                 ⟨(some 56), (some (48, true)), (.pick (.t 52) (.k (.v (.bool true))) (.t 55))⟩,
                 ⟨(some 57), none, (.pick (.t 48) (.t 56) (.k (.v (.bool false))))⟩,
                 ⟨(some 44), none, (.mv (.t 57))⟩])
               (.cond (.t 44)
                (.seq
                 (.reg 11 none [4] [
                   ⟨(some 4), none, (.mv (.k (.v (.int .i64 11))))⟩])
                 .ret)
                (.seq
                 (.reg 12 none [58] [
                   ⟨(some 59), none, (.ld (some 7) (.t 3))⟩,
                   ⟨(some 60), none, (.call (.k (.clo F_register_releases [])) [(.t 59)])⟩,
                   ⟨(some 61), none, (.mv (.t 60))⟩,
                   ⟨(some 62), (some (61, true)), (.fa 4 (.t 3))⟩,
                   ⟨(some 63), (some (61, true)), (.ld none (.t 62))⟩,
                   ⟨(some 64), (some (61, true)), (.bin .lss false (.t 63) (.k (.v (.int .i64 1))))⟩,
                   ⟨(some 65), (some (61, true)), (.mv (.t 64))⟩,
                   ⟨(some 66), (some (65, false)), (.fa 4 (.t 3))⟩,
                   ⟨(some 67), (some (65, false)), (.ld none (.t 66))⟩,
                   ⟨(some 68), (some (65, false)), (.bin .gtr false (.t 67) (.k (.v (.int .i64 40))))⟩,
                   ⟨(some 69), (some (61, true)), (.pick (.t 65) (.k (.v (.bool true))) (.t 68))⟩,
                   ⟨(some 70), (some (61, true)), (.mv (.t 69))⟩,
                   ⟨(some 71), (some (70, false)), (.mv (.t 5))⟩,
                   ⟨(some 72), (some (61, true)), (.pick (.t 70) (.k (.v (.bool true))) (.t 71))⟩,
                   ⟨(some 73), none, (.pick (.t 61) (.t 72) (.k (.v (.bool false))))⟩,
                   ⟨(some 58), none, (.mv (.t 73))⟩])
                 (.cond (.t 58)
                  (.seq
                   (.reg 13 none [4] [
                     ⟨(some 4), none, (.mv (.k (.v (.int .i64 11))))⟩])
                   .ret)
                  .skip)))))))))))))
     (.seq
      (.reg 14 none [4] [
        ⟨(some 4), none, (.mv (.k (.v (.int .i64 0))))⟩])
      .ret))))
theorem fn_register_fits : FnIR Try.prog F_register_fits 74 [(0, [0, 3]), (1, [0, 3, 5]), (2, [0, 3, 5, 9]), (3, [4]), (4, [0, 3, 5, 14]), (5, [4]), (6, [3, 5, 23]), (7, [4]), (8, [3, 5, 35]), (9, [4]), (10, [3, 5, 44]), (11, [4]), (12, [58]), (13, [4]), (14, [4])] ir_register_fits [(.tmp 4)] :=
  ⟨Try.f31, _, Try.func31, rfl, by kernel_rfl, rfl, by kernel_rfl, by kernel_rfl⟩

/-- dataenclave/register.standing -/
def ir_register_standing : RC :=
  (.seq
   (.reg 0 none [0] [
     ⟨(some 2), none, (.mv (.k (.v (.slice none 0 0))))⟩])
   (.seq
    (.reg 1 none [0, 3] [
      ⟨(some 3), none, (.mv (.k (.v (.slice none 0 0))))⟩])
    (.seq
     (.seq
      (.reg 2 none [3, 6, 7, 8] [
        ⟨(some 6), none, (.mv (.t 0))⟩,
        ⟨(some 7), none, (.lenL (.t 6))⟩,
        ⟨(some 8), none, (.mv (.k (.v (.int .i64 0))))⟩])
      (.block 0
       (.loop
        (.seq
         (.reg 3 none [3, 6, 7, 8, 9] [
           ⟨(some 9), none, (.bin .lss false (.t 8) (.t 7))⟩])
         (.seq
          (.cond (.t 9)
           .skip
           (.exit 0))
          (.seq
           (.block 1
            (.seq
             (.reg 4 none [3, 5, 6, 7, 8] [
               ⟨(some 10), none, (.ixL 7 (.t 6) (.t 8))⟩,
               ⟨(some 11), none, (.ld (some 7) (.t 10))⟩,
               ⟨(some 5), none, (.new (.agg [(.v (.int .i64 0)), (.v (.int .u64 0)), (.v (.int .i64 0)), (.v (.int .i64 0)), (.v (.int .i64 0)), (.v (.string ⟨#[]⟩)), (.v (.int .u64 0))]))⟩,
               ⟨none, none, (.st 7 (.t 5) (.t 11))⟩])
             (.seq
              (.seq
               (.reg 5 none [3, 5, 6, 7, 8, 14] [
                 ⟨(some 12), none, (.fa 2 (.t 5))⟩,
                 ⟨(some 13), none, (.ld none (.t 12))⟩,
                 ⟨(some 14), none, (.bin .neq false (.t 13) (.k (.v (.int .i64 1))))⟩])
               (.cond (.t 14)
                (.reg 6 none [3, 5, 6, 7, 8] [
                  ⟨(some 15), none, (.mv (.t 3))⟩,
                  ⟨(some 16), none, (.mf F_register_standing_1 [(.t 5)])⟩,
                  ⟨(some 17), none, (.call (.k (.clo F_slices_DeleteFunc_int [])) [(.t 15), (.t 16)])⟩,
                  ⟨(some 3), none, (.mv (.t 17))⟩])
                .skip))
              (.seq
               (.reg 7 none [3, 5, 6, 7, 8, 19] [
                 ⟨(some 18), none, (.ld (some 7) (.t 5))⟩,
                 ⟨(some 19), none, (.call (.k (.clo F_register_releases [])) [(.t 18)])⟩])
               (.cond (.t 19)
                (.reg 8 none [3, 6, 7, 8] [
                  ⟨(some 20), none, (.mv (.t 3))⟩,
                  ⟨(some 21), none, (.fa 0 (.t 5))⟩,
                  ⟨(some 22), none, (.ld none (.t 21))⟩,
                  ⟨(some 23), none, (.bsl 1 1 [(.t 22)])⟩,
                  ⟨(some 24), none, (.app 1 8 false (.t 20) (.t 23))⟩,
                  ⟨(some 3), none, (.mv (.t 24))⟩])
                .skip)))))
           (.reg 9 none [3, 6, 7, 8] [
             ⟨(some 25), none, (.bin .add false (.t 8) (.k (.v (.int .i64 1))))⟩,
             ⟨(some 8), none, (.mv (.t 25))⟩])))))))
     (.seq
      (.reg 10 none [2] [
        ⟨(some 26), none, (.mv (.t 3))⟩,
        ⟨(some 2), none, (.mv (.t 26))⟩])
      .ret))))
theorem fn_register_standing : FnIR Try.prog F_register_standing 27 [(0, [0]), (1, [0, 3]), (2, [3, 6, 7, 8]), (3, [3, 6, 7, 8, 9]), (4, [3, 5, 6, 7, 8]), (5, [3, 5, 6, 7, 8, 14]), (6, [3, 5, 6, 7, 8]), (7, [3, 5, 6, 7, 8, 19]), (8, [3, 6, 7, 8]), (9, [3, 6, 7, 8]), (10, [2])] ir_register_standing [(.tmp 2)] :=
  ⟨Try.f32, _, Try.func32, rfl, by kernel_rfl, rfl, by kernel_rfl, by kernel_rfl⟩

/-- dataenclave/register.releases -/
def ir_register_releases : RC :=
  (.seq
   (.reg 0 none [1] [
     ⟨(some 1), none, (.box (.t 0))⟩,
     ⟨(some 2), none, (.mv (.k (.v (.bool false))))⟩])
   (.seq
    (.reg 1 none [2] [
      ⟨(some 3), none, (.fa 2 (.t 1))⟩,
      ⟨(some 4), none, (.ld none (.t 3))⟩,
      ⟨(some 5), none, (.bin .eql false (.t 4) (.k (.v (.int .i64 1))))⟩,
      ⟨(some 6), none, (.mv (.t 5))⟩,
      ⟨(some 7), (some (6, false)), (.fa 2 (.t 1))⟩,
      ⟨(some 8), (some (6, false)), (.ld none (.t 7))⟩,
      ⟨(some 9), (some (6, false)), (.bin .eql false (.t 8) (.k (.v (.int .i64 3))))⟩,
      ⟨(some 10), none, (.pick (.t 6) (.k (.v (.bool true))) (.t 9))⟩,
      ⟨(some 2), none, (.mv (.t 10))⟩])
    .ret))
theorem fn_register_releases : FnIR Try.prog F_register_releases 11 [(0, [1]), (1, [2])] ir_register_releases [(.tmp 2)] :=
  ⟨Try.f33, _, Try.func33, rfl, by kernel_rfl, rfl, by kernel_rfl, by kernel_rfl⟩

/-- dataenclave/register.put -/
def ir_register_put : RC :=
  (.seq
   (.reg 0 none [0, 1, 2] [
     ⟨(some 6), none, (.mv (.k (.v (.slice none 0 0))))⟩])
   (.seq
    (.seq
     (.reg 1 none [0, 1, 10, 11, 12] [
       ⟨(some 10), none, (.mv (.t 2))⟩,
       ⟨(some 11), none, (.lenL (.t 10))⟩,
       ⟨(some 12), none, (.mv (.k (.v (.int .i64 0))))⟩])
     (.block 0
      (.loop
       (.seq
        (.reg 2 none [0, 1, 10, 11, 12, 13] [
          ⟨(some 13), none, (.bin .lss false (.t 12) (.t 11))⟩])
        (.seq
         (.cond (.t 13)
          .skip
          (.exit 0))
         (.seq
          (.block 1
           (.seq
            (.reg 3 none [0, 1, 8, 10, 11, 12] [
              ⟨(some 14), none, (.ixL 1 (.t 10) (.t 12))⟩,
              ⟨(some 15), none, (.ld none (.t 14))⟩,
              ⟨(some 8), none, (.mv (.t 15))⟩])
            (.seq
             (.reg 4 none [0, 1, 8, 9, 10, 11, 12] [
               ⟨(some 16), none, (.mv (.t 1))⟩,
               ⟨(some 17), none, (.bin .sub false (.t 16) (.k (.v (.int .i64 1))))⟩,
               ⟨(some 9), none, (.mv (.t 17))⟩])
             (.block 2
              (.loop
               (.seq
                (.seq
                 (.reg 5 none [0, 1, 8, 9, 10, 11, 12, 19] [
                   ⟨(some 18), none, (.mv (.t 9))⟩,
                   ⟨(some 19), none, (.bin .geq false (.t 18) (.k (.v (.int .i64 0))))⟩])
                 (.cond (.t 19)
                  .skip
                  (.exit 2)))
                (.seq
                 (.block 3
                  (.reg 7 none [0, 1, 8, 9, 10, 11, 12] [
                    ⟨(some 22), none, (.mv (.t 0))⟩,
                    ⟨(some 23), none, (.mv (.t 8))⟩,
                    ⟨(some 24), none, (.mv (.t 9))⟩,
                    ⟨(some 25), none, (.bin .mul false (.k (.v (.int .i64 8))) (.t 24))⟩,
                    ⟨(some 26), none, (.bin .shr false (.t 23) (.t 25))⟩,
                    ⟨(some 27), none, (.cvI .u8 (.t 26))⟩,
                    ⟨(some 28), none, (.bsl 1 1 [(.t 27)])⟩,
                    ⟨(some 29), none, (.app 1 1 false (.t 22) (.t 28))⟩,
                    ⟨(some 0), none, (.mv (.t 29))⟩]))
                 (.reg 6 none [0, 1, 8, 9, 10, 11, 12] [
                   ⟨(some 20), none, (.mv (.t 9))⟩,
                   ⟨(some 21), none, (.bin .sub false (.t 20) (.k (.v (.int .i64 1))))⟩,
                   ⟨(some 9), none, (.mv (.t 21))⟩]))))))))
          (.reg 8 none [0, 1, 10, 11, 12] [
            ⟨(some 30), none, (.bin .add false (.t 12) (.k (.v (.int .i64 1))))⟩,
            ⟨(some 12), none, (.mv (.t 30))⟩])))))))
    (.seq
     (.reg 9 none [6] [
       ⟨(some 31), none, (.mv (.t 0))⟩,
       ⟨(some 6), none, (.mv (.t 31))⟩])
     .ret)))
theorem fn_register_put : FnIR Try.prog F_register_put 32 [(0, [0, 1, 2]), (1, [0, 1, 10, 11, 12]), (2, [0, 1, 10, 11, 12, 13]), (3, [0, 1, 8, 10, 11, 12]), (4, [0, 1, 8, 9, 10, 11, 12]), (5, [0, 1, 8, 9, 10, 11, 12, 19]), (6, [0, 1, 8, 9, 10, 11, 12]), (7, [0, 1, 8, 9, 10, 11, 12]), (8, [0, 1, 10, 11, 12]), (9, [6])] ir_register_put [(.tmp 6)] :=
  ⟨Try.f34, _, Try.func34, rfl, by kernel_rfl, rfl, by kernel_rfl, by kernel_rfl⟩

/-- dataenclave/dataenclaveref38.about -/
def ir_ref38_about : RC :=
  (.seq
   (.reg 0 none [0, 3] [
     ⟨(some 3), none, (.box (.t 1))⟩,
     ⟨(some 4), none, (.mv (.k (.v (.int .i64 0))))⟩])
   (.seq
    (.block 0
     (.seq
      (.reg 1 none [0, 3, 7] [
        ⟨(some 8), none, (.fa 5 (.t 3))⟩,
        ⟨(some 9), none, (.ld none (.t 8))⟩,
        ⟨(some 10), none, (.lenS (.t 9))⟩,
        ⟨(some 11), none, (.bin .gtr false (.t 10) (.k (.v (.int .i64 4096))))⟩,
        ⟨(some 7), none, (.mv (.t 11))⟩])
      (.cond (.t 7)
       (.seq
        (.reg 2 none [4] [
          ⟨(some 4), none, (.mv (.k (.v (.int .i64 1))))⟩])
        .ret)
       (.seq
        (.reg 3 none [0, 3, 12] [
          ⟨(some 13), none, (.fa 2 (.t 3))⟩,
          ⟨(some 14), none, (.ld none (.t 13))⟩,
          ⟨(some 15), none, (.bin .lss false (.t 14) (.k (.v (.int .i64 1))))⟩,
          ⟨(some 16), none, (.mv (.t 15))⟩,
          ⟨(some 17), (some (16, false)), (.fa 2 (.t 3))⟩,
          ⟨(some 18), (some (16, false)), (.ld none (.t 17))⟩,
          ⟨(some 19), (some (16, false)), (.bin .gtr false (.t 18) (.k (.v (.int .i64 3))))⟩,
          ⟨(some 20), none, (.pick (.t 16) (.k (.v (.bool true))) (.t 19))⟩,
          ⟨(some 12), none, (.mv (.t 20))⟩])
        (.cond (.t 12)
         (.seq
          (.reg 4 none [4] [
            ⟨(some 4), none, (.mv (.k (.v (.int .i64 4))))⟩])
          .ret)
         (.seq
          (.reg 5 (some [0, 1, 3, 7, 15, 31, 15, 79, 255, 511, 1023, 2047]) [0, 3, 21] [
            ⟨(some 22), none, (.fa 2 (.t 3))⟩,
            ⟨(some 23), none, (.ld none (.t 22))⟩,
            ⟨(some 24), none, (.bin .neq false (.t 23) (.k (.v (.int .i64 1))))⟩,
            ⟨(some 25), none, (.mv (.t 24))⟩,
            ⟨(some 26), (some (25, true)), (.mv (.t 0))⟩,
            ⟨(some 27), (some (25, true)), (.call (.k (.clo F_ref38_inForce [])) [(.t 26)])⟩,
            ⟨(some 28), (some (25, true)), (.fa 3 (.t 3))⟩,
            ⟨(some 29), (some (25, true)), (.ld none (.t 28))⟩,
            ⟨(some 30), (some (25, true)), (.call (.k (.clo F_ref38_has [])) [(.t 27), (.t 29)])⟩,
            ⟨(some 31), (some (25, true)), (.un .not (.t 30))⟩,
            ⟨(some 32), none, (.pick (.t 25) (.t 31) (.k (.v (.bool false))))⟩,
            ⟨(some 21), none, (.mv (.t 32))⟩])
          (.cond (.t 21)
           (.seq
            (.reg 6 none [4] [
              ⟨(some 4), none, (.mv (.k (.v (.int .i64 56))))⟩])
            .ret)
           .skip)))))))
    (.seq
     (.seq
      (.reg 7 none [0, 3, 40] [
        ⟨(some 33), none, (.fa 2 (.t 3))⟩,
        ⟨(some 34), none, (.ld none (.t 33))⟩,
        ⟨(some 35), none, (.bin .eql false (.t 34) (.k (.v (.int .i64 1))))⟩,
        ⟨(some 36), none, (.mv (.t 35))⟩,
        ⟨(some 37), (some (36, true)), (.fa 3 (.t 3))⟩,
        ⟨(some 38), (some (36, true)), (.ld none (.t 37))⟩,
        ⟨(some 39), (some (36, true)), (.bin .neq false (.t 38) (.k (.v (.int .i64 0))))⟩,
        ⟨(some 40), none, (.pick (.t 36) (.t 39) (.k (.v (.bool false))))⟩])
      (.cond (.t 40)
       (.seq
        (.reg 8 none [4] [
          ⟨(some 4), none, (.mv (.k (.v (.int .i64 11))))⟩])
        .ret)
       .skip))
     (.seq
      (.seq
       (.reg 9 none [0, 3, 43] [
         ⟨(some 41), none, (.fa 2 (.t 3))⟩,
         ⟨(some 42), none, (.ld none (.t 41))⟩,
         ⟨(some 43), none, (.bin .eql false (.t 42) (.k (.v (.int .i64 2))))⟩])
       (.cond (.t 43)
        (.seq
         (.seq
          (.reg 10 none [51] [
            ⟨(some 44), none, (.fa 4 (.t 3))⟩,
            ⟨(some 45), none, (.ld none (.t 44))⟩,
            ⟨(some 46), none, (.bin .neq false (.t 45) (.k (.v (.int .i64 0))))⟩,
            ⟨(some 47), none, (.mv (.t 46))⟩,
            ⟨(some 48), (some (47, false)), (.fa 5 (.t 3))⟩,
            ⟨(some 49), (some (47, false)), (.ld none (.t 48))⟩,
            ⟨(some 50), (some (47, false)), (.bin .neq false (.t 49) (.k (.v (.string ⟨#[]⟩))))⟩,
            ⟨(some 51), none, (.pick (.t 47) (.k (.v (.bool true))) (.t 50))⟩])
          (.cond (.t 51)
           (.seq
            (.reg 11 none [4] [
              ⟨(some 4), none, (.mv (.k (.v (.int .i64 11))))⟩])
            .ret)
           .skip))
         (.seq
          (.reg 12 none [4] [
            ⟨(some 4), none, (.mv (.k (.v (.int .i64 0))))⟩])
          .ret))
        .skip))
      (.seq
       (.seq
        (.reg 13 none [0, 3, 59] [
          ⟨(some 52), none, (.fa 4 (.t 3))⟩,
          ⟨(some 53), none, (.ld none (.t 52))⟩,
          ⟨(some 54), none, (.bin .lss false (.t 53) (.k (.v (.int .i64 1))))⟩,
          ⟨(some 55), none, (.mv (.t 54))⟩,
          ⟨(some 56), (some (55, false)), (.fa 4 (.t 3))⟩,
          ⟨(some 57), (some (55, false)), (.ld none (.t 56))⟩,
          ⟨(some 58), (some (55, false)), (.bin .gtr false (.t 57) (.k (.v (.int .i64 40))))⟩,
          ⟨(some 59), none, (.pick (.t 55) (.k (.v (.bool true))) (.t 58))⟩])
        (.cond (.t 59)
         (.seq
          (.reg 14 none [4] [
            ⟨(some 4), none, (.mv (.k (.v (.int .i64 11))))⟩])
          .ret)
         .skip))
       (.seq
        (.seq
         (.reg 15 none [3, 60, 61, 62] [
           ⟨(some 60), none, (.mv (.t 0))⟩,
           ⟨(some 61), none, (.lenL (.t 60))⟩,
           ⟨(some 62), none, (.mv (.k (.v (.int .i64 0))))⟩])
         (.block 1
          (.loop
           (.seq
            (.reg 16 none [3, 60, 61, 62, 63] [
              ⟨(some 63), none, (.bin .lss false (.t 62) (.t 61))⟩])
            (.seq
             (.cond (.t 63)
              .skip
              (.exit 1))
             (.seq
              (.block 2
               (.seq
                (.reg 17 none [3, 6, 60, 61, 62] [
                  ⟨(some 64), none, (.ixL 7 (.t 60) (.t 62))⟩,
                  ⟨(some 65), none, (.ld (some 7) (.t 64))⟩,
                  ⟨(some 6), none, (.new (.agg [(.v (.int .i64 0)), (.v (.int .u64 0)), (.v (.int .i64 0)), (.v (.int .i64 0)), (.v (.int .i64 0)), (.v (.string ⟨#[]⟩)), (.v (.int .u64 0))]))⟩,
                  ⟨none, none, (.st 7 (.t 6) (.t 65))⟩])
                (.seq
                 (.reg 18 none [3, 60, 61, 62, 70] [
                   ⟨(some 66), none, (.fa 4 (.t 6))⟩,
                   ⟨(some 67), none, (.ld none (.t 66))⟩,
                   ⟨(some 68), none, (.fa 4 (.t 3))⟩,
                   ⟨(some 69), none, (.ld none (.t 68))⟩,
                   ⟨(some 70), none, (.bin .eql false (.t 67) (.t 69))⟩])
                 (.cond (.t 70)
                  (.seq
                   (.reg 19 none [4] [
                     ⟨(some 4), none, (.mv (.k (.v (.int .i64 11))))⟩])
                   .ret)
                  .skip))))
              (.reg 20 none [3, 60, 61, 62] [
                ⟨(some 71), none, (.bin .add false (.t 62) (.k (.v (.int .i64 1))))⟩,
                ⟨(some 62), none, (.mv (.t 71))⟩])))))))
        (.seq
         (.reg 21 none [4] [
           ⟨(some 4), none, (.mv (.k (.v (.int .i64 0))))⟩])
         .ret)))))))
theorem fn_ref38_about : FnIR Try.prog F_ref38_about 72 [(0, [0, 3]), (1, [0, 3, 7]), (2, [4]), (3, [0, 3, 12]), (4, [4]), (5, [0, 3, 21]), (6, [4]), (7, [0, 3, 40]), (8, [4]), (9, [0, 3, 43]), (10, [51]), (11, [4]), (12, [4]), (13, [0, 3, 59]), (14, [4]), (15, [3, 60, 61, 62]), (16, [3, 60, 61, 62, 63]), (17, [3, 6, 60, 61, 62]), (18, [3, 60, 61, 62, 70]), (19, [4]), (20, [3, 60, 61, 62]), (21, [4])] ir_ref38_about [(.tmp 4)] :=
  ⟨Try.f35, _, Try.func35, rfl, by kernel_rfl, rfl, by kernel_rfl, by kernel_rfl⟩

/-- dataenclave/dataenclaveref38.inForce -/
def ir_ref38_inForce : RC :=
  (.seq
   (.reg 0 none [0] [
     ⟨(some 2), none, (.mv (.k (.v (.slice none 0 0))))⟩])
   (.seq
    (.reg 1 none [0, 3] [
      ⟨(some 3), none, (.mv (.k (.v (.slice none 0 0))))⟩])
    (.seq
     (.seq
      (.reg 2 none [3, 9, 10, 11] [
        ⟨(some 9), none, (.mv (.t 0))⟩,
        ⟨(some 10), none, (.lenL (.t 9))⟩,
        ⟨(some 11), none, (.mv (.k (.v (.int .i64 0))))⟩])
      (.block 0
       (.loop
        (.seq
         (.reg 3 none [3, 9, 10, 11, 12] [
           ⟨(some 12), none, (.bin .lss false (.t 11) (.t 10))⟩])
         (.seq
          (.cond (.t 12)
           .skip
           (.exit 0))
          (.seq
           (.block 1
            (.seq
             (.reg 4 none [3, 5, 9, 10, 11] [
               ⟨(some 13), none, (.ixL 7 (.t 9) (.t 11))⟩,
               ⟨(some 14), none, (.ld (some 7) (.t 13))⟩,
               ⟨(some 5), none, (.new (.agg [(.v (.int .i64 0)), (.v (.int .u64 0)), (.v (.int .i64 0)), (.v (.int .i64 0)), (.v (.int .i64 0)), (.v (.string ⟨#[]⟩)), (.v (.int .u64 0))]))⟩,
               ⟨none, none, (.st 7 (.t 5) (.t 14))⟩])
             (.seq
              (.seq
               (.reg 5 none [3, 5, 9, 10, 11, 17] [
                 ⟨(some 15), none, (.fa 2 (.t 5))⟩,
                 ⟨(some 16), none, (.ld none (.t 15))⟩,
                 ⟨(some 17), none, (.bin .neq false (.t 16) (.k (.v (.int .i64 1))))⟩])
               (.cond (.t 17)
                (.seq
                 (.reg 6 none [3, 5, 6, 9, 10, 11] [
                   ⟨(some 6), none, (.mv (.k (.v (.slice none 0 0))))⟩])
                 (.seq
                  (.seq
                   (.reg 7 none [5, 6, 9, 10, 11, 18, 19, 20] [
                     ⟨(some 18), none, (.mv (.t 3))⟩,
                     ⟨(some 19), none, (.lenL (.t 18))⟩,
                     ⟨(some 20), none, (.mv (.k (.v (.int .i64 0))))⟩])
                   (.block 2
                    (.loop
                     (.seq
                      (.reg 8 none [5, 6, 9, 10, 11, 18, 19, 20, 21] [
                        ⟨(some 21), none, (.bin .lss false (.t 20) (.t 19))⟩])
                      (.seq
                       (.cond (.t 21)
                        .skip
                        (.exit 2))
                       (.seq
                        (.block 3
                         (.seq
                          (.reg 9 none [5, 6, 8, 9, 10, 11, 18, 19, 20] [
                            ⟨(some 22), none, (.ixL 1 (.t 18) (.t 20))⟩,
                            ⟨(some 23), none, (.ld none (.t 22))⟩,
                            ⟨(some 8), none, (.mv (.t 23))⟩])
                          (.seq
                           (.reg 10 none [5, 6, 8, 9, 10, 11, 18, 19, 20, 27] [
                             ⟨(some 24), none, (.mv (.t 8))⟩,
                             ⟨(some 25), none, (.fa 3 (.t 5))⟩,
                             ⟨(some 26), none, (.ld none (.t 25))⟩,
                             ⟨(some 27), none, (.bin .neq false (.t 24) (.t 26))⟩])
                           (.cond (.t 27)
                            (.reg 11 none [5, 6, 9, 10, 11, 18, 19, 20] [
                              ⟨(some 28), none, (.mv (.t 6))⟩,
                              ⟨(some 29), none, (.mv (.t 8))⟩,
                              ⟨(some 30), none, (.bsl 1 1 [(.t 29)])⟩,
                              ⟨(some 31), none, (.app 1 8 false (.t 28) (.t 30))⟩,
                              ⟨(some 6), none, (.mv (.t 31))⟩])
                            .skip))))
                        (.reg 12 none [5, 6, 9, 10, 11, 18, 19, 20] [
                          ⟨(some 32), none, (.bin .add false (.t 20) (.k (.v (.int .i64 1))))⟩,
                          ⟨(some 20), none, (.mv (.t 32))⟩])))))))
                  (.reg 13 none [3, 5, 9, 10, 11] [
                    ⟨(some 33), none, (.mv (.t 6))⟩,
                    ⟨(some 3), none, (.mv (.t 33))⟩])))
                .skip))
              (.seq
               (.reg 14 none [3, 5, 9, 10, 11, 36] [
                 ⟨(some 34), none, (.fa 2 (.t 5))⟩,
                 ⟨(some 35), none, (.ld none (.t 34))⟩,
                 ⟨(some 36), none, (.bin .neq false (.t 35) (.k (.v (.int .i64 2))))⟩])
               (.cond (.t 36)
                (.reg 15 none [3, 9, 10, 11] [
                  ⟨(some 37), none, (.mv (.t 3))⟩,
                  ⟨(some 38), none, (.fa 0 (.t 5))⟩,
                  ⟨(some 39), none, (.ld none (.t 38))⟩,
                  ⟨(some 40), none, (.bsl 1 1 [(.t 39)])⟩,
                  ⟨(some 41), none, (.app 1 8 false (.t 37) (.t 40))⟩,
                  ⟨(some 3), none, (.mv (.t 41))⟩])
                .skip)))))
           (.reg 16 none [3, 9, 10, 11] [
             ⟨(some 42), none, (.bin .add false (.t 11) (.k (.v (.int .i64 1))))⟩,
             ⟨(some 11), none, (.mv (.t 42))⟩])))))))
     (.seq
      (.reg 17 none [2] [
        ⟨(some 43), none, (.mv (.t 3))⟩,
        ⟨(some 2), none, (.mv (.t 43))⟩])
      .ret))))
theorem fn_ref38_inForce : FnIR Try.prog F_ref38_inForce 44 [(0, [0]), (1, [0, 3]), (2, [3, 9, 10, 11]), (3, [3, 9, 10, 11, 12]), (4, [3, 5, 9, 10, 11]), (5, [3, 5, 9, 10, 11, 17]), (6, [3, 5, 6, 9, 10, 11]), (7, [5, 6, 9, 10, 11, 18, 19, 20]), (8, [5, 6, 9, 10, 11, 18, 19, 20, 21]), (9, [5, 6, 8, 9, 10, 11, 18, 19, 20]), (10, [5, 6, 8, 9, 10, 11, 18, 19, 20, 27]), (11, [5, 6, 9, 10, 11, 18, 19, 20]), (12, [5, 6, 9, 10, 11, 18, 19, 20]), (13, [3, 5, 9, 10, 11]), (14, [3, 5, 9, 10, 11, 36]), (15, [3, 9, 10, 11]), (16, [3, 9, 10, 11]), (17, [2])] ir_ref38_inForce [(.tmp 2)] :=
  ⟨Try.f36, _, Try.func36, rfl, by kernel_rfl, rfl, by kernel_rfl, by kernel_rfl⟩

/-- slices.Clone[[]dataenclave/api.Entry,dataenclave/api.Entry] -/
def ir_slices_Clone_Entry : RC :=
  (.seq
   (.reg 0 none [0] [
     ⟨(some 2), none, (.mv (.k (.v (.slice none 0 0))))⟩])
   (.seq
    (.seq
     (.reg 1 none [0, 4] [
       ⟨(some 3), none, (.mv (.t 0))⟩,
       ⟨(some 4), none, (.ext (.nilq false) [(.t 3), (.k (.v (.slice none 0 0)))])⟩])
     (.cond (.t 4)
      (.seq
       (.reg 2 none [2] [
         ⟨(some 2), none, (.mv (.k (.v (.slice none 0 0))))⟩])
       .ret)
      .skip))
    (.seq
     (.reg 3 none [2] [
       ⟨(some 5), none, (.bsl 7 0 [])⟩,
       ⟨(some 6), none, (.mv (.t 0))⟩,
       ⟨(some 7), none, (.app 7 64 false (.t 5) (.t 6))⟩,
       ⟨(some 2), none, (.mv (.t 7))⟩])
     .ret)))
theorem fn_slices_Clone_Entry : FnIR Try.prog F_slices_Clone_Entry 8 [(0, [0]), (1, [0, 4]), (2, [2]), (3, [2])] ir_slices_Clone_Entry [(.tmp 2)] :=
  ⟨Try.f37, _, Try.func37, rfl, by kernel_rfl, rfl, by kernel_rfl, by kernel_rfl⟩

/-- slices.ContainsFunc[[]dataenclave/api.Entry,dataenclave/api.Entry] -/
def ir_slices_ContainsFunc_Entry : RC :=
  (.seq
   (.reg 0 none [0, 1] [
     ⟨(some 4), none, (.mv (.k (.v (.bool false))))⟩])
   (.seq
    (.reg 1 none [4] [
      ⟨(some 5), none, (.mv (.t 0))⟩,
      ⟨(some 6), none, (.mv (.t 1))⟩,
      ⟨(some 7), none, (.call (.k (.clo F_slices_IndexFunc_Entry [])) [(.t 5), (.t 6)])⟩,
      ⟨(some 8), none, (.bin .geq false (.t 7) (.k (.v (.int .i64 0))))⟩,
      ⟨(some 4), none, (.mv (.t 8))⟩])
    .ret))
theorem fn_slices_ContainsFunc_Entry : FnIR Try.prog F_slices_ContainsFunc_Entry 9 [(0, [0, 1]), (1, [4])] ir_slices_ContainsFunc_Entry [(.tmp 4)] :=
  ⟨Try.f38, _, Try.func38, rfl, by kernel_rfl, rfl, by kernel_rfl, by kernel_rfl⟩

/-- dataenclave/register.fits$1 -/
def ir_register_fits_1 : RC :=
  (.seq
   (.reg 0 none [1, 2] [
     ⟨(some 2), none, (.box (.t 0))⟩,
     ⟨(some 3), none, (.mv (.k (.v (.bool false))))⟩])
   (.seq
    (.reg 1 none [3] [
      ⟨(some 4), none, (.ld (some 7) (.t 2))⟩,
      ⟨(some 5), none, (.call (.k (.clo F_register_releases [])) [(.t 4)])⟩,
      ⟨(some 6), none, (.mv (.t 5))⟩,
      ⟨(some 7), (some (6, true)), (.fa 4 (.t 2))⟩,
      ⟨(some 8), (some (6, true)), (.ld none (.t 7))⟩,
      ⟨(some 9), (some (6, true)), (.fa 4 (.t 1))⟩,
      ⟨(some 10), (some (6, true)), (.ld none (.t 9))⟩,
      ⟨(some 11), (some (6, true)), (.bin .eql false (.t 8) (.t 10))⟩,
      ⟨(some 12), none, (.pick (.t 6) (.t 11) (.k (.v (.bool false))))⟩,
      ⟨(some 3), none, (.mv (.t 12))⟩])
    .ret))
theorem fn_register_fits_1 : FnIR Try.prog F_register_fits_1 13 [(0, [1, 2]), (1, [3])] ir_register_fits_1 [(.tmp 3)] :=
  ⟨Try.f39, _, Try.func39, rfl, by kernel_rfl, rfl, by kernel_rfl, by kernel_rfl⟩

/-- slices.Contains[[]int,int] -/
def ir_slices_Contains_int : RC :=
  (.seq
   (.reg 0 none [0, 1] [
     ⟨(some 4), none, (.mv (.k (.v (.bool false))))⟩])
   (.seq
    (.reg 1 none [4] [
      ⟨(some 5), none, (.mv (.t 0))⟩,
      ⟨(some 6), none, (.mv (.t 1))⟩,
      ⟨(some 7), none, (.call (.k (.clo F_slices_Index_int [])) [(.t 5), (.t 6)])⟩,
      ⟨(some 8), none, (.bin .geq false (.t 7) (.k (.v (.int .i64 0))))⟩,
      ⟨(some 4), none, (.mv (.t 8))⟩])
    .ret))
theorem fn_slices_Contains_int : FnIR Try.prog F_slices_Contains_int 9 [(0, [0, 1]), (1, [4])] ir_slices_Contains_int [(.tmp 4)] :=
  ⟨Try.f40, _, Try.func40, rfl, by kernel_rfl, rfl, by kernel_rfl, by kernel_rfl⟩

/-- slices.DeleteFunc[[]int,int] -/
def ir_slices_DeleteFunc_int : RC :=
  (.seq
   (.reg 0 none [0, 1] [
     ⟨(some 4), none, (.mv (.k (.v (.slice none 0 0))))⟩])
   (.seq
    (.reg 1 none [0, 1, 5] [
      ⟨(some 8), none, (.mv (.t 0))⟩,
      ⟨(some 9), none, (.mv (.t 1))⟩,
      ⟨(some 10), none, (.call (.k (.clo F_slices_IndexFunc_int [])) [(.t 8), (.t 9)])⟩,
      ⟨(some 5), none, (.mv (.t 10))⟩])
    (.seq
     (.seq
      (.reg 2 none [0, 1, 5, 12] [
        ⟨(some 11), none, (.mv (.t 5))⟩,
        ⟨(some 12), none, (.bin .eql false (.t 11) (.k (.v (.int .i64 (-1)))))⟩])
      (.cond (.t 12)
       (.seq
        (.reg 3 none [4] [
          ⟨(some 13), none, (.mv (.t 0))⟩,
          ⟨(some 4), none, (.mv (.t 13))⟩])
        .ret)
       .skip))
     (.seq
      (.seq
       (.reg 4 none [0, 1, 5, 6] [
         ⟨(some 14), none, (.mv (.t 5))⟩,
         ⟨(some 15), none, (.bin .add false (.t 14) (.k (.v (.int .i64 1))))⟩,
         ⟨(some 6), none, (.mv (.t 15))⟩])
       (.block 0
        (.loop
         (.seq
          (.seq
           (.reg 5 none [0, 1, 5, 6, 19] [
             ⟨(some 16), none, (.mv (.t 6))⟩,
             ⟨(some 17), none, (.mv (.t 0))⟩,
             ⟨(some 18), none, (.lenL (.t 17))⟩,
             ⟨(some 19), none, (.bin .lss false (.t 16) (.t 18))⟩])
           (.cond (.t 19)
            .skip
            (.exit 0)))
          (.seq
           (.block 1
            (.seq
             (.reg 7 none [0, 1, 5, 6, 7] [
               ⟨(some 22), none, (.mv (.t 0))⟩,
               ⟨(some 23), none, (.mv (.t 6))⟩,
               ⟨(some 24), none, (.ixL 1 (.t 22) (.t 23))⟩,
               ⟨(some 25), none, (.ld none (.t 24))⟩,
               ⟨(some 7), none, (.mv (.t 25))⟩])
             (.seq
              (.reg 8 none [0, 1, 5, 6, 7, 29] [
                ⟨(some 26), none, (.mv (.t 1))⟩,
                ⟨(some 27), none, (.mv (.t 7))⟩,
                ⟨(some 28), none, (.call (.t 26) [(.t 27)])⟩,
                ⟨(some 29), none, (.un .not (.t 28))⟩])
              (.cond (.t 29)
               (.seq
                (.reg 9 none [0, 1, 5, 6] [
                  ⟨(some 30), none, (.mv (.t 0))⟩,
                  ⟨(some 31), none, (.mv (.t 5))⟩,
                  ⟨(some 32), none, (.mv (.t 7))⟩,
                  ⟨(some 33), none, (.ixL 1 (.t 30) (.t 31))⟩,
                  ⟨none, none, (.st 1 (.t 33) (.t 32))⟩])
                (.reg 10 none [0, 1, 5, 6] [
                  ⟨(some 34), none, (.mv (.t 5))⟩,
                  ⟨(some 35), none, (.bin .add false (.t 34) (.k (.v (.int .i64 1))))⟩,
                  ⟨(some 5), none, (.mv (.t 35))⟩]))
               .skip))))
           (.reg 6 none [0, 1, 5, 6] [
             ⟨(some 20), none, (.mv (.t 6))⟩,
             ⟨(some 21), none, (.bin .add false (.t 20) (.k (.v (.int .i64 1))))⟩,
             ⟨(some 6), none, (.mv (.t 21))⟩]))))))
      (.seq
       (.reg 11 none [0, 5] [
         ⟨(some 36), none, (.mv (.t 0))⟩,
         ⟨(some 37), none, (.mv (.t 5))⟩,
         ⟨(some 38), none, (.slL 1 (.t 36) (some (.t 37)) none)⟩,
         ⟨none, none, (.ext (.clr 1 (.v (.int .i64 0))) [(.t 38)])⟩])
       (.seq
        (.reg 12 none [4] [
          ⟨(some 39), none, (.mv (.t 0))⟩,
          ⟨(some 40), none, (.mv (.t 5))⟩,
          ⟨(some 41), none, (.slL 1 (.t 39) none (some (.t 40)))⟩,
          ⟨(some 4), none, (.mv (.t 41))⟩])
        .ret))))))
theorem fn_slices_DeleteFunc_int : FnIR Try.prog F_slices_DeleteFunc_int 42 [(0, [0, 1]), (1, [0, 1, 5]), (2, [0, 1, 5, 12]), (3, [4]), (4, [0, 1, 5, 6]), (5, [0, 1, 5, 6, 19]), (6, [0, 1, 5, 6]), (7, [0, 1, 5, 6, 7]), (8, [0, 1, 5, 6, 7, 29]), (9, [0, 1, 5, 6]), (10, [0, 1, 5, 6]), (11, [0, 5]), (12, [4])] ir_slices_DeleteFunc_int [(.tmp 4)] :=
  ⟨Try.f41, _, Try.func41, rfl, by kernel_rfl, rfl, by kernel_rfl, by kernel_rfl⟩

/-- dataenclave/register.standing$1 -/
def ir_register_standing_1 : RC :=
  (.seq
   (.reg 0 none [0, 1] [
     ⟨(some 3), none, (.mv (.k (.v (.bool false))))⟩])
   (.seq
    (.reg 1 none [3] [
      ⟨(some 4), none, (.mv (.t 0))⟩,
      ⟨(some 5), none, (.fa 3 (.t 1))⟩,
      ⟨(some 6), none, (.ld none (.t 5))⟩,
      ⟨(some 7), none, (.bin .eql false (.t 4) (.t 6))⟩,
      ⟨(some 3), none, (.mv (.t 7))⟩])
    .ret))
theorem fn_register_standing_1 : FnIR Try.prog F_register_standing_1 8 [(0, [0, 1]), (1, [3])] ir_register_standing_1 [(.tmp 3)] :=
  ⟨Try.f42, _, Try.func42, rfl, by kernel_rfl, rfl, by kernel_rfl, by kernel_rfl⟩

/-- dataenclave/dataenclaveref38.has -/
def ir_ref38_has : RC :=
  (.seq
   (.reg 0 none [0, 1] [
     ⟨(some 4), none, (.mv (.k (.v (.bool false))))⟩])
   (.seq
    (.seq
     (.reg 1 none [1, 7, 8, 9] [
       ⟨(some 7), none, (.mv (.t 0))⟩,
       ⟨(some 8), none, (.lenL (.t 7))⟩,
       ⟨(some 9), none, (.mv (.k (.v (.int .i64 0))))⟩])
     (.block 0
      (.loop
       (.seq
        (.reg 2 none [1, 7, 8, 9, 10] [
          ⟨(some 10), none, (.bin .lss false (.t 9) (.t 8))⟩])
        (.seq
         (.cond (.t 10)
          .skip
          (.exit 0))
         (.seq
          (.block 1
           (.seq
            (.reg 3 none [1, 6, 7, 8, 9] [
              ⟨(some 11), none, (.ixL 1 (.t 7) (.t 9))⟩,
              ⟨(some 12), none, (.ld none (.t 11))⟩,
              ⟨(some 6), none, (.mv (.t 12))⟩])
            (.seq
             (.reg 4 none [1, 7, 8, 9, 15] [
               ⟨(some 13), none, (.mv (.t 6))⟩,
               ⟨(some 14), none, (.mv (.t 1))⟩,
               ⟨(some 15), none, (.bin .eql false (.t 13) (.t 14))⟩])
             (.cond (.t 15)
              (.seq
               (.reg 5 none [4] [
                 ⟨(some 4), none, (.mv (.k (.v (.bool true))))⟩])
               .ret)
              .skip))))
          (.reg 6 none [1, 7, 8, 9] [
            ⟨(some 16), none, (.bin .add false (.t 9) (.k (.v (.int .i64 1))))⟩,
            ⟨(some 9), none, (.mv (.t 16))⟩])))))))
    (.seq
     (.reg 7 none [4] [
       ⟨(some 4), none, (.mv (.k (.v (.bool false))))⟩])
     .ret)))
theorem fn_ref38_has : FnIR Try.prog F_ref38_has 17 [(0, [0, 1]), (1, [1, 7, 8, 9]), (2, [1, 7, 8, 9, 10]), (3, [1, 6, 7, 8, 9]), (4, [1, 7, 8, 9, 15]), (5, [4]), (6, [1, 7, 8, 9]), (7, [4])] ir_ref38_has [(.tmp 4)] :=
  ⟨Try.f43, _, Try.func43, rfl, by kernel_rfl, rfl, by kernel_rfl, by kernel_rfl⟩

/-- slices.IndexFunc[[]dataenclave/api.Entry,dataenclave/api.Entry] -/
def ir_slices_IndexFunc_Entry : RC :=
  (.seq
   (.reg 0 none [0, 1] [
     ⟨(some 4), none, (.mv (.k (.v (.int .i64 0))))⟩])
   (.seq
    (.seq
     (.reg 1 none [0, 1, 7, 8] [
       ⟨(some 6), none, (.mv (.t 0))⟩,
       ⟨(some 7), none, (.lenL (.t 6))⟩,
       ⟨(some 8), none, (.mv (.k (.v (.int .i64 0))))⟩])
     (.block 0
      (.loop
       (.seq
        (.reg 2 none [0, 1, 7, 8, 9] [
          ⟨(some 9), none, (.bin .lss false (.t 8) (.t 7))⟩])
        (.seq
         (.cond (.t 9)
          .skip
          (.exit 0))
         (.seq
          (.block 1
           (.seq
            (.reg 3 none [0, 1, 5, 7, 8] [
              ⟨(some 10), none, (.mv (.t 8))⟩,
              ⟨(some 5), none, (.mv (.t 10))⟩])
            (.seq
             (.reg 4 none [0, 1, 5, 7, 8, 16] [
               ⟨(some 11), none, (.mv (.t 1))⟩,
               ⟨(some 12), none, (.mv (.t 0))⟩,
               ⟨(some 13), none, (.mv (.t 5))⟩,
               ⟨(some 14), none, (.ixL 7 (.t 12) (.t 13))⟩,
               ⟨(some 15), none, (.ld (some 7) (.t 14))⟩,
               ⟨(some 16), none, (.call (.t 11) [(.t 15)])⟩])
             (.cond (.t 16)
              (.seq
               (.reg 5 none [4] [
                 ⟨(some 17), none, (.mv (.t 5))⟩,
                 ⟨(some 4), none, (.mv (.t 17))⟩])
               .ret)
              .skip))))
          (.reg 6 none [0, 1, 7, 8] [
            ⟨(some 18), none, (.bin .add false (.t 8) (.k (.v (.int .i64 1))))⟩,
            ⟨(some 8), none, (.mv (.t 18))⟩])))))))
    (.seq
     (.reg 7 none [4] [
       ⟨(some 4), none, (.mv (.k (.v (.int .i64 (-1)))))⟩])
     .ret)))
theorem fn_slices_IndexFunc_Entry : FnIR Try.prog F_slices_IndexFunc_Entry 19 [(0, [0, 1]), (1, [0, 1, 7, 8]), (2, [0, 1, 7, 8, 9]), (3, [0, 1, 5, 7, 8]), (4, [0, 1, 5, 7, 8, 16]), (5, [4]), (6, [0, 1, 7, 8]), (7, [4])] ir_slices_IndexFunc_Entry [(.tmp 4)] :=
  ⟨Try.f44, _, Try.func44, rfl, by kernel_rfl, rfl, by kernel_rfl, by kernel_rfl⟩

/-- slices.Index[[]int,int] -/
def ir_slices_Index_int : RC :=
  (.seq
   (.reg 0 none [0, 1] [
     ⟨(some 4), none, (.mv (.k (.v (.int .i64 0))))⟩])
   (.seq
    (.seq
     (.reg 1 none [0, 1, 7, 8] [
       ⟨(some 6), none, (.mv (.t 0))⟩,
       ⟨(some 7), none, (.lenL (.t 6))⟩,
       ⟨(some 8), none, (.mv (.k (.v (.int .i64 0))))⟩])
     (.block 0
      (.loop
       (.seq
        (.reg 2 none [0, 1, 7, 8, 9] [
          ⟨(some 9), none, (.bin .lss false (.t 8) (.t 7))⟩])
        (.seq
         (.cond (.t 9)
          .skip
          (.exit 0))
         (.seq
          (.block 1
           (.seq
            (.reg 3 none [0, 1, 5, 7, 8] [
              ⟨(some 10), none, (.mv (.t 8))⟩,
              ⟨(some 5), none, (.mv (.t 10))⟩])
            (.seq
             (.reg 4 none [0, 1, 5, 7, 8, 16] [
               ⟨(some 11), none, (.mv (.t 1))⟩,
               ⟨(some 12), none, (.mv (.t 0))⟩,
               ⟨(some 13), none, (.mv (.t 5))⟩,
               ⟨(some 14), none, (.ixL 1 (.t 12) (.t 13))⟩,
               ⟨(some 15), none, (.ld none (.t 14))⟩,
               ⟨(some 16), none, (.bin .eql false (.t 11) (.t 15))⟩])
             (.cond (.t 16)
              (.seq
               (.reg 5 none [4] [
                 ⟨(some 17), none, (.mv (.t 5))⟩,
                 ⟨(some 4), none, (.mv (.t 17))⟩])
               .ret)
              .skip))))
          (.reg 6 none [0, 1, 7, 8] [
            ⟨(some 18), none, (.bin .add false (.t 8) (.k (.v (.int .i64 1))))⟩,
            ⟨(some 8), none, (.mv (.t 18))⟩])))))))
    (.seq
     (.reg 7 none [4] [
       ⟨(some 4), none, (.mv (.k (.v (.int .i64 (-1)))))⟩])
     .ret)))
theorem fn_slices_Index_int : FnIR Try.prog F_slices_Index_int 19 [(0, [0, 1]), (1, [0, 1, 7, 8]), (2, [0, 1, 7, 8, 9]), (3, [0, 1, 5, 7, 8]), (4, [0, 1, 5, 7, 8, 16]), (5, [4]), (6, [0, 1, 7, 8]), (7, [4])] ir_slices_Index_int [(.tmp 4)] :=
  ⟨Try.f45, _, Try.func45, rfl, by kernel_rfl, rfl, by kernel_rfl, by kernel_rfl⟩

/-- slices.IndexFunc[[]int,int] -/
def ir_slices_IndexFunc_int : RC :=
  (.seq
   (.reg 0 none [0, 1] [
     ⟨(some 4), none, (.mv (.k (.v (.int .i64 0))))⟩])
   (.seq
    (.seq
     (.reg 1 none [0, 1, 7, 8] [
       ⟨(some 6), none, (.mv (.t 0))⟩,
       ⟨(some 7), none, (.lenL (.t 6))⟩,
       ⟨(some 8), none, (.mv (.k (.v (.int .i64 0))))⟩])
     (.block 0
      (.loop
       (.seq
        (.reg 2 none [0, 1, 7, 8, 9] [
          ⟨(some 9), none, (.bin .lss false (.t 8) (.t 7))⟩])
        (.seq
         (.cond (.t 9)
          .skip
          (.exit 0))
         (.seq
          (.block 1
           (.seq
            (.reg 3 none [0, 1, 5, 7, 8] [
              ⟨(some 10), none, (.mv (.t 8))⟩,
              ⟨(some 5), none, (.mv (.t 10))⟩])
            (.seq
             (.reg 4 none [0, 1, 5, 7, 8, 16] [
               ⟨(some 11), none, (.mv (.t 1))⟩,
               ⟨(some 12), none, (.mv (.t 0))⟩,
               ⟨(some 13), none, (.mv (.t 5))⟩,
               ⟨(some 14), none, (.ixL 1 (.t 12) (.t 13))⟩,
               ⟨(some 15), none, (.ld none (.t 14))⟩,
               ⟨(some 16), none, (.call (.t 11) [(.t 15)])⟩])
             (.cond (.t 16)
              (.seq
               (.reg 5 none [4] [
                 ⟨(some 17), none, (.mv (.t 5))⟩,
                 ⟨(some 4), none, (.mv (.t 17))⟩])
               .ret)
              .skip))))
          (.reg 6 none [0, 1, 7, 8] [
            ⟨(some 18), none, (.bin .add false (.t 8) (.k (.v (.int .i64 1))))⟩,
            ⟨(some 8), none, (.mv (.t 18))⟩])))))))
    (.seq
     (.reg 7 none [4] [
       ⟨(some 4), none, (.mv (.k (.v (.int .i64 (-1)))))⟩])
     .ret)))
theorem fn_slices_IndexFunc_int : FnIR Try.prog F_slices_IndexFunc_int 19 [(0, [0, 1]), (1, [0, 1, 7, 8]), (2, [0, 1, 7, 8, 9]), (3, [0, 1, 5, 7, 8]), (4, [0, 1, 5, 7, 8, 16]), (5, [4]), (6, [0, 1, 7, 8]), (7, [4])] ir_slices_IndexFunc_int [(.tmp 4)] :=
  ⟨Try.f46, _, Try.func46, rfl, by kernel_rfl, rfl, by kernel_rfl, by kernel_rfl⟩

end Go.Proofs

