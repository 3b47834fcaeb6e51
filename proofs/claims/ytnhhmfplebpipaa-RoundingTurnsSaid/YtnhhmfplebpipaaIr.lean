import Derived.Test.YtnhhmfplebpipaaChecked
import Derived.Test.YtnhhmfplebpipaaZzU
namespace Go.Proofs
open Go.TL
/-- dataenclave/dataenclavelaw34.RoundingFits -/
def ir3 : RC :=
  (.seq
   (.reg 0 none [0] [
     ⟨(some 2), none, (.mv (.k (.v (.bool false))))⟩])
   (.seq
    (.reg 1 none [3, 4, 5, 6] [
      ⟨(some 20), none, (.mv (.t 0))⟩,
      ⟨(some 21), none, (.call (.k (.clo 9 [])) [(.t 20)])⟩,
      ⟨(some 22), none, (.call (.k (.clo 8 [])) [(.t 21)])⟩,
      ⟨(some 19), none, (.mv (.t 22))⟩,
      ⟨(some 23), none, (.ex (.t 19) 0)⟩,
      ⟨(some 24), none, (.ex (.t 19) 1)⟩,
      ⟨(some 25), none, (.ex (.t 19) 2)⟩,
      ⟨(some 26), none, (.ex (.t 19) 3)⟩,
      ⟨(some 3), none, (.mv (.t 23))⟩,
      ⟨(some 4), none, (.mv (.t 24))⟩,
      ⟨(some 5), none, (.mv (.t 25))⟩,
      ⟨(some 6), none, (.mv (.t 26))⟩])
    (.seq
     (.reg 2 none [3, 4, 5, 6, 7, 8] [
       ⟨(some 28), none, (.mv (.t 3))⟩,
       ⟨(some 29), none, (.mv (.t 4))⟩,
       ⟨(some 30), none, (.mv (.t 5))⟩,
       ⟨(some 31), none, (.mv (.t 6))⟩,
       ⟨(some 32), none, (.call (.k (.clo 10 [])) [(.t 28), (.t 29), (.t 30), (.t 31)])⟩,
       ⟨(some 27), none, (.mv (.t 32))⟩,
       ⟨(some 33), none, (.ex (.t 27) 0)⟩,
       ⟨(some 34), none, (.ex (.t 27) 1)⟩,
       ⟨(some 7), none, (.mv (.t 33))⟩,
       ⟨(some 8), none, (.mv (.t 34))⟩])
     (.seq
      (.seq
       (.reg 3 none [3, 4, 5, 6, 7, 43] [
         ⟨(some 35), none, (.mv (.t 8))⟩,
         ⟨(some 36), none, (.bin .neq false (.t 35) (.k (.v (.int .i64 0))))⟩,
         ⟨(some 37), none, (.mv (.t 36))⟩,
         ⟨(some 38), (some (37, false)), (.mv (.t 7))⟩,
         ⟨(some 39), (some (37, false)), (.lenL (.t 38))⟩,
         ⟨(some 40), (some (37, false)), (.mv (.t 5))⟩,
         ⟨(some 41), (some (37, false)), (.lenL (.t 40))⟩,
         ⟨(some 42), (some (37, false)), (.bin .neq false (.t 39) (.t 41))⟩,
         ⟨(some 43), none, (.pick (.t 37) (.k (.v (.bool true))) (.t 42))⟩])
       (.cond (.t 43)
        (.seq
         (.reg 4 none [2] [
           ⟨(some 2), none, (.mv (.k (.v (.bool false))))⟩])
         .ret)
        .skip))
      (.seq
       (.reg 5 none [3, 4, 5, 6, 7, 9, 10] [
         ⟨(some 45), none, (.mv (.t 3))⟩,
         ⟨(some 46), none, (.mv (.t 4))⟩,
         ⟨(some 47), none, (.mv (.t 5))⟩,
         ⟨(some 48), none, (.mv (.t 7))⟩,
         ⟨(some 49), none, (.mv (.t 6))⟩,
         ⟨(some 50), none, (.call (.k (.clo 11 [])) [(.t 45), (.t 46), (.t 47), (.t 48), (.t 49)])⟩,
         ⟨(some 44), none, (.mv (.t 50))⟩,
         ⟨(some 51), none, (.ex (.t 44) 0)⟩,
         ⟨(some 52), none, (.ex (.t 44) 1)⟩,
         ⟨(some 9), none, (.mv (.t 51))⟩,
         ⟨(some 10), none, (.mv (.t 52))⟩])
       (.seq
        (.seq
         (.reg 6 none [3, 4, 5, 6, 7, 9, 10, 54, 55] [
           ⟨(some 53), none, (.mv (.t 5))⟩,
           ⟨(some 54), none, (.lenL (.t 53))⟩,
           ⟨(some 55), none, (.mv (.k (.v (.int .i64 0))))⟩])
         (.block 0
          (.loop
           (.seq
            (.reg 7 none [3, 4, 5, 6, 7, 9, 10, 54, 55, 56] [
              ⟨(some 56), none, (.bin .lss false (.t 55) (.t 54))⟩])
            (.seq
             (.cond (.t 56)
              .skip
              (.exit 0))
             (.seq
              (.block 1
               (.seq
                (.reg 8 none [3, 4, 5, 6, 7, 9, 10, 11, 54, 55] [
                  ⟨(some 57), none, (.mv (.t 55))⟩,
                  ⟨(some 11), none, (.mv (.t 57))⟩])
                (.seq
                 (.reg 9 none [3, 4, 5, 6, 7, 9, 10, 11, 12, 13, 54, 55] [
                   ⟨(some 12), none, (.mv (.k (.v (.int .i64 0))))⟩,
                   ⟨(some 13), none, (.mv (.k (.v (.int .i64 0))))⟩])
                 (.seq
                  (.seq
                   (.reg 10 (some [0, 0, 3, 7, 0, 31, 63, 127, 255, 255, 1023, 2047, 255, 255, 12543, 28927, 255, 127231, 262143, 524287, 1048575, 2097151, 2097151, 8388607, 16777215, 2097151, 2097151, 102760447, 236978175, 2097151, 1042284543, 2147483647, 4294967295]) [3, 4, 5, 6, 7, 9, 10, 11, 12, 13, 54, 55, 90] [
                     ⟨(some 58), none, (.mv (.t 7))⟩,
                     ⟨(some 59), none, (.mv (.t 11))⟩,
                     ⟨(some 60), none, (.ixL 1 (.t 58) (.t 59))⟩,
                     ⟨(some 61), none, (.ld none (.t 60))⟩,
                     ⟨(some 62), none, (.mv (.t 6))⟩,
                     ⟨(some 63), none, (.bin .rem false (.t 61) (.t 62))⟩,
                     ⟨(some 64), none, (.bin .neq false (.t 63) (.k (.v (.int .i64 0))))⟩,
                     ⟨(some 65), none, (.mv (.t 64))⟩,
                     ⟨(some 66), (some (65, false)), (.mv (.t 7))⟩,
                     ⟨(some 67), (some (65, false)), (.mv (.t 11))⟩,
                     ⟨(some 68), (some (65, false)), (.ixL 1 (.t 66) (.t 67))⟩,
                     ⟨(some 69), (some (65, false)), (.ld none (.t 68))⟩,
                     ⟨(some 70), (some (65, false)), (.mv (.t 5))⟩,
                     ⟨(some 71), (some (65, false)), (.mv (.t 11))⟩,
                     ⟨(some 72), (some (65, false)), (.ixL 1 (.t 70) (.t 71))⟩,
                     ⟨(some 73), (some (65, false)), (.ld none (.t 72))⟩,
                     ⟨(some 74), (some (65, false)), (.mv (.t 6))⟩,
                     ⟨(some 75), (some (65, false)), (.bin .sub false (.t 73) (.t 74))⟩,
                     ⟨(some 76), (some (65, false)), (.bin .leq false (.t 69) (.t 75))⟩,
                     ⟨(some 77), none, (.pick (.t 65) (.k (.v (.bool true))) (.t 76))⟩,
                     ⟨(some 78), none, (.mv (.t 77))⟩,
                     ⟨(some 79), (some (78, false)), (.mv (.t 7))⟩,
                     ⟨(some 80), (some (78, false)), (.mv (.t 11))⟩,
                     ⟨(some 81), (some (78, false)), (.ixL 1 (.t 79) (.t 80))⟩,
                     ⟨(some 82), (some (78, false)), (.ld none (.t 81))⟩,
                     ⟨(some 83), (some (78, false)), (.mv (.t 5))⟩,
                     ⟨(some 84), (some (78, false)), (.mv (.t 11))⟩,
                     ⟨(some 85), (some (78, false)), (.ixL 1 (.t 83) (.t 84))⟩,
                     ⟨(some 86), (some (78, false)), (.ld none (.t 85))⟩,
                     ⟨(some 87), (some (78, false)), (.mv (.t 6))⟩,
                     ⟨(some 88), (some (78, false)), (.bin .add false (.t 86) (.t 87))⟩,
                     ⟨(some 89), (some (78, false)), (.bin .geq false (.t 82) (.t 88))⟩,
                     ⟨(some 90), none, (.pick (.t 78) (.k (.v (.bool true))) (.t 89))⟩])
                   (.cond (.t 90)
                    (.seq
                     (.reg 11 none [2] [
                       ⟨(some 2), none, (.mv (.k (.v (.bool false))))⟩])
                     .ret)
                    .skip))
                  (.seq
                   (.seq
                    (.reg 12 none [3, 4, 5, 6, 7, 9, 10, 11, 12, 13, 14, 54, 55] [
                      ⟨(some 14), none, (.mv (.k (.v (.int .i64 0))))⟩])
                    (.block 2
                     (.loop
                      (.seq
                       (.seq
                        (.reg 13 none [3, 4, 5, 6, 7, 9, 10, 11, 12, 13, 14, 54, 55, 93] [
                          ⟨(some 91), none, (.mv (.t 14))⟩,
                          ⟨(some 92), none, (.mv (.t 4))⟩,
                          ⟨(some 93), none, (.bin .lss false (.t 91) (.t 92))⟩])
                        (.cond (.t 93)
                         .skip
                         (.exit 2)))
                       (.seq
                        (.block 3
                         (.reg 15 (some [0, 0, 0, 0, 12, 0, 60, 0, 252, 510, 1022, 2047, 0, 0, 0, 0, 49152, 0, 245760, 0, 1032192, 2088960, 4186112, 8384512, 4095, 33554431]) [3, 4, 5, 6, 7, 9, 10, 11, 12, 13, 14, 54, 55] [
                           ⟨(some 96), none, (.mv (.t 12))⟩,
                           ⟨(some 97), none, (.mv (.t 7))⟩,
                           ⟨(some 98), none, (.mv (.t 11))⟩,
                           ⟨(some 99), none, (.mv (.t 4))⟩,
                           ⟨(some 100), none, (.bin .quo false (.t 98) (.t 99))⟩,
                           ⟨(some 101), none, (.mv (.t 4))⟩,
                           ⟨(some 102), none, (.bin .mul false (.t 100) (.t 101))⟩,
                           ⟨(some 103), none, (.mv (.t 14))⟩,
                           ⟨(some 104), none, (.bin .add false (.t 102) (.t 103))⟩,
                           ⟨(some 105), none, (.ixL 1 (.t 97) (.t 104))⟩,
                           ⟨(some 106), none, (.ld none (.t 105))⟩,
                           ⟨(some 107), none, (.bin .add false (.t 96) (.t 106))⟩,
                           ⟨(some 108), none, (.mv (.t 13))⟩,
                           ⟨(some 109), none, (.mv (.t 5))⟩,
                           ⟨(some 110), none, (.mv (.t 11))⟩,
                           ⟨(some 111), none, (.mv (.t 4))⟩,
                           ⟨(some 112), none, (.bin .quo false (.t 110) (.t 111))⟩,
                           ⟨(some 113), none, (.mv (.t 4))⟩,
                           ⟨(some 114), none, (.bin .mul false (.t 112) (.t 113))⟩,
                           ⟨(some 115), none, (.mv (.t 14))⟩,
                           ⟨(some 116), none, (.bin .add false (.t 114) (.t 115))⟩,
                           ⟨(some 117), none, (.ixL 1 (.t 109) (.t 116))⟩,
                           ⟨(some 118), none, (.ld none (.t 117))⟩,
                           ⟨(some 119), none, (.bin .add false (.t 108) (.t 118))⟩,
                           ⟨(some 12), none, (.mv (.t 107))⟩,
                           ⟨(some 13), none, (.mv (.t 119))⟩]))
                        (.reg 14 none [3, 4, 5, 6, 7, 9, 10, 11, 12, 13, 14, 54, 55] [
                          ⟨(some 94), none, (.mv (.t 14))⟩,
                          ⟨(some 95), none, (.bin .add false (.t 94) (.k (.v (.int .i64 1))))⟩,
                          ⟨(some 14), none, (.mv (.t 95))⟩]))))))
                   (.seq
                    (.reg 16 none [3, 4, 5, 6, 7, 9, 10, 54, 55, 131] [
                      ⟨(some 120), none, (.mv (.t 12))⟩,
                      ⟨(some 121), none, (.mv (.t 13))⟩,
                      ⟨(some 122), none, (.mv (.t 6))⟩,
                      ⟨(some 123), none, (.bin .sub false (.t 121) (.t 122))⟩,
                      ⟨(some 124), none, (.bin .leq false (.t 120) (.t 123))⟩,
                      ⟨(some 125), none, (.mv (.t 124))⟩,
                      ⟨(some 126), (some (125, false)), (.mv (.t 12))⟩,
                      ⟨(some 127), (some (125, false)), (.mv (.t 13))⟩,
                      ⟨(some 128), (some (125, false)), (.mv (.t 6))⟩,
                      ⟨(some 129), (some (125, false)), (.bin .add false (.t 127) (.t 128))⟩,
                      ⟨(some 130), (some (125, false)), (.bin .geq false (.t 126) (.t 129))⟩,
                      ⟨(some 131), none, (.pick (.t 125) (.k (.v (.bool true))) (.t 130))⟩])
                    (.cond (.t 131)
                     (.seq
                      (.reg 17 none [2] [
                        ⟨(some 2), none, (.mv (.k (.v (.bool false))))⟩])
                      .ret)
                     .skip)))))))
              (.reg 18 none [3, 4, 5, 6, 7, 9, 10, 54, 55] [
                ⟨(some 132), none, (.bin .add false (.t 55) (.k (.v (.int .i64 1))))⟩,
                ⟨(some 55), none, (.mv (.t 132))⟩])))))))
        (.seq
         (.seq
          (.reg 19 none [3, 4, 5, 6, 7, 9, 10, 134, 135] [
            ⟨(some 133), none, (.mv (.t 5))⟩,
            ⟨(some 134), none, (.lenL (.t 133))⟩,
            ⟨(some 135), none, (.mv (.k (.v (.int .i64 0))))⟩])
          (.block 4
           (.loop
            (.seq
             (.reg 20 none [3, 4, 5, 6, 7, 9, 10, 134, 135, 136] [
               ⟨(some 136), none, (.bin .lss false (.t 135) (.t 134))⟩])
             (.seq
              (.cond (.t 136)
               .skip
               (.exit 4))
              (.seq
               (.block 5
                (.seq
                 (.reg 21 none [3, 4, 5, 6, 7, 9, 10, 15, 134, 135] [
                   ⟨(some 137), none, (.mv (.t 135))⟩,
                   ⟨(some 15), none, (.mv (.t 137))⟩])
                 (.seq
                  (.reg 22 none [3, 4, 5, 6, 7, 9, 10, 15, 16, 134, 135] [
                    ⟨(some 138), none, (.bsl 1 0 [])⟩,
                    ⟨(some 139), none, (.mv (.t 7))⟩,
                    ⟨(some 140), none, (.app 1 8 false (.t 138) (.t 139))⟩,
                    ⟨(some 16), none, (.mv (.t 140))⟩])
                  (.seq
                   (.reg 23 none [3, 4, 5, 6, 7, 9, 10, 16, 134, 135] [
                     ⟨(some 141), none, (.mv (.t 16))⟩,
                     ⟨(some 142), none, (.mv (.t 15))⟩,
                     ⟨(some 143), none, (.ixL 1 (.t 141) (.t 142))⟩,
                     ⟨(some 144), none, (.ld none (.t 143))⟩,
                     ⟨(some 145), none, (.mv (.t 6))⟩,
                     ⟨(some 146), none, (.bin .sub false (.t 144) (.t 145))⟩,
                     ⟨(some 147), none, (.ixL 1 (.t 141) (.t 142))⟩,
                     ⟨none, none, (.st 1 (.t 147) (.t 146))⟩])
                   (.seq
                    (.reg 24 none [3, 4, 5, 6, 7, 9, 10, 17, 18, 134, 135] [
                      ⟨(some 149), none, (.mv (.t 3))⟩,
                      ⟨(some 150), none, (.mv (.t 4))⟩,
                      ⟨(some 151), none, (.mv (.t 5))⟩,
                      ⟨(some 152), none, (.mv (.t 16))⟩,
                      ⟨(some 153), none, (.mv (.t 6))⟩,
                      ⟨(some 154), none, (.call (.k (.clo 11 [])) [(.t 149), (.t 150), (.t 151), (.t 152), (.t 153)])⟩,
                      ⟨(some 148), none, (.mv (.t 154))⟩,
                      ⟨(some 155), none, (.ex (.t 148) 0)⟩,
                      ⟨(some 156), none, (.ex (.t 148) 1)⟩,
                      ⟨(some 17), none, (.mv (.t 155))⟩,
                      ⟨(some 18), none, (.mv (.t 156))⟩])
                    (.seq
                     (.reg 25 none [3, 4, 5, 6, 7, 9, 10, 134, 135, 161] [
                       ⟨(some 157), none, (.mv (.t 18))⟩,
                       ⟨(some 158), none, (.bin .neq false (.t 157) (.k (.v (.int .i64 0))))⟩,
                       ⟨(some 159), none, (.mv (.t 158))⟩,
                       ⟨(some 160), (some (159, false)), (.mv (.t 17))⟩,
                       ⟨(some 161), none, (.pick (.t 159) (.k (.v (.bool true))) (.t 160))⟩])
                     (.cond (.t 161)
                      (.seq
                       (.reg 26 none [2] [
                         ⟨(some 2), none, (.mv (.k (.v (.bool false))))⟩])
                       .ret)
                      .skip)))))))
               (.reg 27 none [3, 4, 5, 6, 7, 9, 10, 134, 135] [
                 ⟨(some 162), none, (.bin .add false (.t 135) (.k (.v (.int .i64 1))))⟩,
                 ⟨(some 135), none, (.mv (.t 162))⟩])))))))
         (.seq
          (.reg 28 none [2] [
            ⟨(some 163), none, (.mv (.t 9))⟩,
            ⟨(some 164), none, (.mv (.t 163))⟩,
            ⟨(some 165), (some (164, true)), (.mv (.t 10))⟩,
            ⟨(some 166), (some (164, true)), (.bin .eql false (.t 165) (.k (.v (.int .i64 0))))⟩,
            ⟨(some 167), none, (.pick (.t 164) (.t 166) (.k (.v (.bool false))))⟩,
            ⟨(some 168), none, (.mv (.t 167))⟩,
            ⟨(some 169), (some (168, true)), (.call (.k (.clo 12 [])) [])⟩,
            ⟨(some 170), none, (.pick (.t 168) (.t 169) (.k (.v (.bool false))))⟩,
            ⟨(some 2), none, (.mv (.t 170))⟩])
          .ret))))))))
theorem fn3 : FnIR Try.prog 3 171 [(0, [0]), (1, [3, 4, 5, 6]), (2, [3, 4, 5, 6, 7, 8]), (3, [3, 4, 5, 6, 7, 43]), (4, [2]), (5, [3, 4, 5, 6, 7, 9, 10]), (6, [3, 4, 5, 6, 7, 9, 10, 54, 55]), (7, [3, 4, 5, 6, 7, 9, 10, 54, 55, 56]), (8, [3, 4, 5, 6, 7, 9, 10, 11, 54, 55]), (9, [3, 4, 5, 6, 7, 9, 10, 11, 12, 13, 54, 55]), (10, [3, 4, 5, 6, 7, 9, 10, 11, 12, 13, 54, 55, 90]), (11, [2]), (12, [3, 4, 5, 6, 7, 9, 10, 11, 12, 13, 14, 54, 55]), (13, [3, 4, 5, 6, 7, 9, 10, 11, 12, 13, 14, 54, 55, 93]), (14, [3, 4, 5, 6, 7, 9, 10, 11, 12, 13, 14, 54, 55]), (15, [3, 4, 5, 6, 7, 9, 10, 11, 12, 13, 14, 54, 55]), (16, [3, 4, 5, 6, 7, 9, 10, 54, 55, 131]), (17, [2]), (18, [3, 4, 5, 6, 7, 9, 10, 54, 55]), (19, [3, 4, 5, 6, 7, 9, 10, 134, 135]), (20, [3, 4, 5, 6, 7, 9, 10, 134, 135, 136]), (21, [3, 4, 5, 6, 7, 9, 10, 15, 134, 135]), (22, [3, 4, 5, 6, 7, 9, 10, 15, 16, 134, 135]), (23, [3, 4, 5, 6, 7, 9, 10, 16, 134, 135]), (24, [3, 4, 5, 6, 7, 9, 10, 17, 18, 134, 135]), (25, [3, 4, 5, 6, 7, 9, 10, 134, 135, 161]), (26, [2]), (27, [3, 4, 5, 6, 7, 9, 10, 134, 135]), (28, [2])] ir3 [(.tmp 2)] :=
  ⟨Try.f3, _, Try.func3, rfl, by kernel_rfl, rfl, by kernel_rfl, by kernel_rfl⟩

/-- dataenclave/dataenclavelaw34.RoundingStays -/
def ir4 : RC :=
  (.seq
   (.reg 0 none [0] [
     ⟨(some 2), none, (.mv (.k (.v (.bool false))))⟩])
   (.seq
    (.reg 1 none [3, 4, 5, 6] [
      ⟨(some 14), none, (.mv (.t 0))⟩,
      ⟨(some 15), none, (.call (.k (.clo 9 [])) [(.t 14)])⟩,
      ⟨(some 16), none, (.call (.k (.clo 8 [])) [(.t 15)])⟩,
      ⟨(some 13), none, (.mv (.t 16))⟩,
      ⟨(some 17), none, (.ex (.t 13) 0)⟩,
      ⟨(some 18), none, (.ex (.t 13) 1)⟩,
      ⟨(some 19), none, (.ex (.t 13) 2)⟩,
      ⟨(some 20), none, (.ex (.t 13) 3)⟩,
      ⟨(some 3), none, (.mv (.t 17))⟩,
      ⟨(some 4), none, (.mv (.t 18))⟩,
      ⟨(some 5), none, (.mv (.t 19))⟩,
      ⟨(some 6), none, (.mv (.t 20))⟩])
    (.seq
     (.reg 2 none [3, 4, 5, 6, 7, 8] [
       ⟨(some 22), none, (.mv (.t 3))⟩,
       ⟨(some 23), none, (.mv (.t 4))⟩,
       ⟨(some 24), none, (.mv (.t 5))⟩,
       ⟨(some 25), none, (.call (.k (.clo 10 [])) [(.t 22), (.t 23), (.t 24), (.k (.v (.int .i64 1)))])⟩,
       ⟨(some 21), none, (.mv (.t 25))⟩,
       ⟨(some 26), none, (.ex (.t 21) 0)⟩,
       ⟨(some 27), none, (.ex (.t 21) 1)⟩,
       ⟨(some 7), none, (.mv (.t 26))⟩,
       ⟨(some 8), none, (.mv (.t 27))⟩])
     (.seq
      (.reg 3 none [3, 4, 5, 6, 7, 8, 9, 10] [
        ⟨(some 29), none, (.mv (.t 3))⟩,
        ⟨(some 30), none, (.mv (.t 4))⟩,
        ⟨(some 31), none, (.mv (.t 5))⟩,
        ⟨(some 32), none, (.mv (.t 6))⟩,
        ⟨(some 33), none, (.call (.k (.clo 10 [])) [(.t 29), (.t 30), (.t 31), (.t 32)])⟩,
        ⟨(some 28), none, (.mv (.t 33))⟩,
        ⟨(some 34), none, (.ex (.t 28) 0)⟩,
        ⟨(some 35), none, (.ex (.t 28) 1)⟩,
        ⟨(some 9), none, (.mv (.t 34))⟩,
        ⟨(some 10), none, (.mv (.t 35))⟩])
      (.seq
       (.reg 4 none [5, 7, 8, 9, 10, 11, 12] [
         ⟨(some 37), none, (.mv (.t 3))⟩,
         ⟨(some 38), none, (.mv (.t 4))⟩,
         ⟨(some 39), none, (.mv (.t 9))⟩,
         ⟨(some 40), none, (.mv (.t 6))⟩,
         ⟨(some 41), none, (.call (.k (.clo 10 [])) [(.t 37), (.t 38), (.t 39), (.t 40)])⟩,
         ⟨(some 36), none, (.mv (.t 41))⟩,
         ⟨(some 42), none, (.ex (.t 36) 0)⟩,
         ⟨(some 43), none, (.ex (.t 36) 1)⟩,
         ⟨(some 11), none, (.mv (.t 42))⟩,
         ⟨(some 12), none, (.mv (.t 43))⟩])
       (.seq
        (.reg 5 none [2] [
          ⟨(some 44), none, (.mv (.t 8))⟩,
          ⟨(some 45), none, (.bin .eql false (.t 44) (.k (.v (.int .i64 0))))⟩,
          ⟨(some 46), none, (.mv (.t 45))⟩,
          ⟨(some 47), (some (46, true)), (.mv (.t 7))⟩,
          ⟨(some 48), (some (46, true)), (.mv (.t 5))⟩,
          ⟨(some 49), (some (46, true)), (.call (.k (.clo 13 [])) [(.t 47), (.t 48)])⟩,
          ⟨(some 50), none, (.pick (.t 46) (.t 49) (.k (.v (.bool false))))⟩,
          ⟨(some 51), none, (.mv (.t 50))⟩,
          ⟨(some 52), (some (51, true)), (.mv (.t 10))⟩,
          ⟨(some 53), (some (51, true)), (.bin .eql false (.t 52) (.k (.v (.int .i64 0))))⟩,
          ⟨(some 54), none, (.pick (.t 51) (.t 53) (.k (.v (.bool false))))⟩,
          ⟨(some 55), none, (.mv (.t 54))⟩,
          ⟨(some 56), (some (55, true)), (.mv (.t 12))⟩,
          ⟨(some 57), (some (55, true)), (.bin .eql false (.t 56) (.k (.v (.int .i64 0))))⟩,
          ⟨(some 58), none, (.pick (.t 55) (.t 57) (.k (.v (.bool false))))⟩,
          ⟨(some 59), none, (.mv (.t 58))⟩,
          ⟨(some 60), (some (59, true)), (.mv (.t 11))⟩,
          ⟨(some 61), (some (59, true)), (.mv (.t 9))⟩,
          ⟨(some 62), (some (59, true)), (.call (.k (.clo 13 [])) [(.t 60), (.t 61)])⟩,
          ⟨(some 63), none, (.pick (.t 59) (.t 62) (.k (.v (.bool false))))⟩,
          ⟨(some 64), none, (.mv (.t 63))⟩,
          ⟨(some 65), (some (64, true)), (.call (.k (.clo 12 [])) [])⟩,
          ⟨(some 66), none, (.pick (.t 64) (.t 65) (.k (.v (.bool false))))⟩,
          ⟨(some 2), none, (.mv (.t 66))⟩])
        .ret))))))
theorem fn4 : FnIR Try.prog 4 67 [(0, [0]), (1, [3, 4, 5, 6]), (2, [3, 4, 5, 6, 7, 8]), (3, [3, 4, 5, 6, 7, 8, 9, 10]), (4, [5, 7, 8, 9, 10, 11, 12]), (5, [2])] ir4 [(.tmp 2)] :=
  ⟨Try.f4, _, Try.func4, rfl, by kernel_rfl, rfl, by kernel_rfl, by kernel_rfl⟩

/-- dataenclave/dataenclavelaw34.RoundingScales -/
def ir5 : RC :=
  (.seq
   (.reg 0 none [0, 1] [
     ⟨(some 4), none, (.mv (.k (.v (.bool false))))⟩])
   (.seq
    (.reg 1 none [1, 5, 6, 7, 8] [
      ⟨(some 18), none, (.mv (.t 0))⟩,
      ⟨(some 19), none, (.call (.k (.clo 9 [])) [(.t 18)])⟩,
      ⟨(some 20), none, (.call (.k (.clo 8 [])) [(.t 19)])⟩,
      ⟨(some 17), none, (.mv (.t 20))⟩,
      ⟨(some 21), none, (.ex (.t 17) 0)⟩,
      ⟨(some 22), none, (.ex (.t 17) 1)⟩,
      ⟨(some 23), none, (.ex (.t 17) 2)⟩,
      ⟨(some 24), none, (.ex (.t 17) 3)⟩,
      ⟨(some 5), none, (.mv (.t 21))⟩,
      ⟨(some 6), none, (.mv (.t 22))⟩,
      ⟨(some 7), none, (.mv (.t 23))⟩,
      ⟨(some 8), none, (.mv (.t 24))⟩])
    (.seq
     (.reg 2 none [5, 6, 7, 8, 9] [
       ⟨(some 25), none, (.mv (.t 1))⟩,
       ⟨(some 26), none, (.cvI .i64 (.t 25))⟩,
       ⟨(some 27), none, (.bin .rem false (.t 26) (.k (.v (.int .i64 2))))⟩,
       ⟨(some 28), none, (.bin .add false (.k (.v (.int .i64 1))) (.t 27))⟩,
       ⟨(some 9), none, (.mv (.t 28))⟩])
     (.seq
      (.reg 3 none [5, 6, 7, 8, 9, 10] [
        ⟨(some 29), none, (.mv (.t 7))⟩,
        ⟨(some 30), none, (.lenL (.t 29))⟩,
        ⟨(some 31), none, (.mk 1 8 (.v (.int .i64 0)) (.t 30) (.t 30))⟩,
        ⟨(some 10), none, (.mv (.t 31))⟩])
      (.seq
       (.seq
        (.reg 4 none [5, 6, 7, 8, 9, 10, 33, 34] [
          ⟨(some 32), none, (.mv (.t 7))⟩,
          ⟨(some 33), none, (.lenL (.t 32))⟩,
          ⟨(some 34), none, (.mv (.k (.v (.int .i64 0))))⟩])
        (.block 0
         (.loop
          (.seq
           (.reg 5 none [5, 6, 7, 8, 9, 10, 33, 34, 35] [
             ⟨(some 35), none, (.bin .lss false (.t 34) (.t 33))⟩])
           (.seq
            (.cond (.t 35)
             .skip
             (.exit 0))
            (.seq
             (.block 1
              (.seq
               (.reg 6 none [5, 6, 7, 8, 9, 10, 11, 33, 34] [
                 ⟨(some 36), none, (.mv (.t 34))⟩,
                 ⟨(some 11), none, (.mv (.t 36))⟩])
               (.reg 7 none [5, 6, 7, 8, 9, 10, 33, 34] [
                 ⟨(some 37), none, (.mv (.t 10))⟩,
                 ⟨(some 38), none, (.mv (.t 11))⟩,
                 ⟨(some 39), none, (.mv (.t 9))⟩,
                 ⟨(some 40), none, (.mv (.t 7))⟩,
                 ⟨(some 41), none, (.mv (.t 11))⟩,
                 ⟨(some 42), none, (.ixL 1 (.t 40) (.t 41))⟩,
                 ⟨(some 43), none, (.ld none (.t 42))⟩,
                 ⟨(some 44), none, (.bin .mul false (.t 39) (.t 43))⟩,
                 ⟨(some 45), none, (.ixL 1 (.t 37) (.t 38))⟩,
                 ⟨none, none, (.st 1 (.t 45) (.t 44))⟩])))
             (.reg 8 none [5, 6, 7, 8, 9, 10, 33, 34] [
               ⟨(some 46), none, (.bin .add false (.t 34) (.k (.v (.int .i64 1))))⟩,
               ⟨(some 34), none, (.mv (.t 46))⟩])))))))
       (.seq
        (.reg 9 none [5, 6, 7, 8, 9, 10, 12, 13] [
          ⟨(some 48), none, (.mv (.t 5))⟩,
          ⟨(some 49), none, (.mv (.t 6))⟩,
          ⟨(some 50), none, (.mv (.t 7))⟩,
          ⟨(some 51), none, (.mv (.t 8))⟩,
          ⟨(some 52), none, (.call (.k (.clo 10 [])) [(.t 48), (.t 49), (.t 50), (.t 51)])⟩,
          ⟨(some 47), none, (.mv (.t 52))⟩,
          ⟨(some 53), none, (.ex (.t 47) 0)⟩,
          ⟨(some 54), none, (.ex (.t 47) 1)⟩,
          ⟨(some 12), none, (.mv (.t 53))⟩,
          ⟨(some 13), none, (.mv (.t 54))⟩])
        (.seq
         (.reg 10 none [7, 9, 12, 13, 14, 15] [
           ⟨(some 56), none, (.mv (.t 5))⟩,
           ⟨(some 57), none, (.mv (.t 6))⟩,
           ⟨(some 58), none, (.mv (.t 10))⟩,
           ⟨(some 59), none, (.mv (.t 9))⟩,
           ⟨(some 60), none, (.mv (.t 8))⟩,
           ⟨(some 61), none, (.bin .mul false (.t 59) (.t 60))⟩,
           ⟨(some 62), none, (.call (.k (.clo 10 [])) [(.t 56), (.t 57), (.t 58), (.t 61)])⟩,
           ⟨(some 55), none, (.mv (.t 62))⟩,
           ⟨(some 63), none, (.ex (.t 55) 0)⟩,
           ⟨(some 64), none, (.ex (.t 55) 1)⟩,
           ⟨(some 14), none, (.mv (.t 63))⟩,
           ⟨(some 15), none, (.mv (.t 64))⟩])
         (.seq
          (.seq
           (.reg 11 none [9, 12, 14, 84] [
             ⟨(some 65), none, (.mv (.t 13))⟩,
             ⟨(some 66), none, (.bin .neq false (.t 65) (.k (.v (.int .i64 0))))⟩,
             ⟨(some 67), none, (.mv (.t 66))⟩,
             ⟨(some 68), (some (67, false)), (.mv (.t 15))⟩,
             ⟨(some 69), (some (67, false)), (.bin .neq false (.t 68) (.k (.v (.int .i64 0))))⟩,
             ⟨(some 70), none, (.pick (.t 67) (.k (.v (.bool true))) (.t 69))⟩,
             ⟨(some 71), none, (.mv (.t 70))⟩,
             ⟨(some 72), (some (71, false)), (.mv (.t 12))⟩,
             ⟨(some 73), (some (71, false)), (.lenL (.t 72))⟩,
             ⟨(some 74), (some (71, false)), (.mv (.t 7))⟩,
             ⟨(some 75), (some (71, false)), (.lenL (.t 74))⟩,
             ⟨(some 76), (some (71, false)), (.bin .neq false (.t 73) (.t 75))⟩,
             ⟨(some 77), none, (.pick (.t 71) (.k (.v (.bool true))) (.t 76))⟩,
             ⟨(some 78), none, (.mv (.t 77))⟩,
             ⟨(some 79), (some (78, false)), (.mv (.t 14))⟩,
             ⟨(some 80), (some (78, false)), (.lenL (.t 79))⟩,
             ⟨(some 81), (some (78, false)), (.mv (.t 7))⟩,
             ⟨(some 82), (some (78, false)), (.lenL (.t 81))⟩,
             ⟨(some 83), (some (78, false)), (.bin .neq false (.t 80) (.t 82))⟩,
             ⟨(some 84), none, (.pick (.t 78) (.k (.v (.bool true))) (.t 83))⟩])
           (.cond (.t 84)
            (.seq
             (.reg 12 none [4] [
               ⟨(some 4), none, (.mv (.k (.v (.bool false))))⟩])
             .ret)
            .skip))
          (.seq
           (.seq
            (.reg 13 none [9, 12, 14, 86, 87] [
              ⟨(some 85), none, (.mv (.t 12))⟩,
              ⟨(some 86), none, (.lenL (.t 85))⟩,
              ⟨(some 87), none, (.mv (.k (.v (.int .i64 0))))⟩])
            (.block 2
             (.loop
              (.seq
               (.reg 14 none [9, 12, 14, 86, 87, 88] [
                 ⟨(some 88), none, (.bin .lss false (.t 87) (.t 86))⟩])
               (.seq
                (.cond (.t 88)
                 .skip
                 (.exit 2))
                (.seq
                 (.block 3
                  (.seq
                   (.reg 15 none [9, 12, 14, 16, 86, 87] [
                     ⟨(some 89), none, (.mv (.t 87))⟩,
                     ⟨(some 16), none, (.mv (.t 89))⟩])
                   (.seq
                    (.reg 16 (some [0, 0, 3, 7, 0, 0, 0, 96, 224, 496, 1023]) [9, 12, 14, 86, 87, 100] [
                      ⟨(some 90), none, (.mv (.t 14))⟩,
                      ⟨(some 91), none, (.mv (.t 16))⟩,
                      ⟨(some 92), none, (.ixL 1 (.t 90) (.t 91))⟩,
                      ⟨(some 93), none, (.ld none (.t 92))⟩,
                      ⟨(some 94), none, (.mv (.t 9))⟩,
                      ⟨(some 95), none, (.mv (.t 12))⟩,
                      ⟨(some 96), none, (.mv (.t 16))⟩,
                      ⟨(some 97), none, (.ixL 1 (.t 95) (.t 96))⟩,
                      ⟨(some 98), none, (.ld none (.t 97))⟩,
                      ⟨(some 99), none, (.bin .mul false (.t 94) (.t 98))⟩,
                      ⟨(some 100), none, (.bin .neq false (.t 93) (.t 99))⟩])
                    (.cond (.t 100)
                     (.seq
                      (.reg 17 none [4] [
                        ⟨(some 4), none, (.mv (.k (.v (.bool false))))⟩])
                      .ret)
                     .skip))))
                 (.reg 18 none [9, 12, 14, 86, 87] [
                   ⟨(some 101), none, (.bin .add false (.t 87) (.k (.v (.int .i64 1))))⟩,
                   ⟨(some 87), none, (.mv (.t 101))⟩])))))))
           (.seq
            (.reg 19 none [4] [
              ⟨(some 102), none, (.call (.k (.clo 12 [])) [])⟩,
              ⟨(some 4), none, (.mv (.t 102))⟩])
            .ret))))))))))
theorem fn5 : FnIR Try.prog 5 103 [(0, [0, 1]), (1, [1, 5, 6, 7, 8]), (2, [5, 6, 7, 8, 9]), (3, [5, 6, 7, 8, 9, 10]), (4, [5, 6, 7, 8, 9, 10, 33, 34]), (5, [5, 6, 7, 8, 9, 10, 33, 34, 35]), (6, [5, 6, 7, 8, 9, 10, 11, 33, 34]), (7, [5, 6, 7, 8, 9, 10, 33, 34]), (8, [5, 6, 7, 8, 9, 10, 33, 34]), (9, [5, 6, 7, 8, 9, 10, 12, 13]), (10, [7, 9, 12, 13, 14, 15]), (11, [9, 12, 14, 84]), (12, [4]), (13, [9, 12, 14, 86, 87]), (14, [9, 12, 14, 86, 87, 88]), (15, [9, 12, 14, 16, 86, 87]), (16, [9, 12, 14, 86, 87, 100]), (17, [4]), (18, [9, 12, 14, 86, 87]), (19, [4])] ir5 [(.tmp 4)] :=
  ⟨Try.f5, _, Try.func5, rfl, by kernel_rfl, rfl, by kernel_rfl, by kernel_rfl⟩

/-- dataenclave/dataenclavelaw34.RoundingAnswers -/
def ir6 : RC :=
  (.seq
   (.reg 0 none [0, 1, 2, 3, 4, 5] [
     ⟨(some 12), none, (.mv (.k (.v (.bool false))))⟩])
   (.seq
    (.seq
     (.reg 1 none [0, 1, 2, 3, 4, 5, 39] [
       ⟨(some 32), none, (.mv (.t 2))⟩,
       ⟨(some 33), none, (.lenL (.t 32))⟩,
       ⟨(some 34), none, (.bin .gtr false (.t 33) (.k (.v (.int .i64 40))))⟩,
       ⟨(some 35), none, (.mv (.t 34))⟩,
       ⟨(some 36), (some (35, false)), (.mv (.t 3))⟩,
       ⟨(some 37), (some (35, false)), (.lenL (.t 36))⟩,
       ⟨(some 38), (some (35, false)), (.bin .gtr false (.t 37) (.k (.v (.int .i64 40))))⟩,
       ⟨(some 39), none, (.pick (.t 35) (.k (.v (.bool true))) (.t 38))⟩])
     (.cond (.t 39)
      (.seq
       (.reg 2 none [12] [
         ⟨(some 40), none, (.call (.k (.clo 12 [])) [])⟩,
         ⟨(some 12), none, (.mv (.t 40))⟩])
       .ret)
      .skip))
    (.seq
     (.reg 3 none [0, 1, 2, 3, 4, 13, 14, 15, 16] [
       ⟨(some 42), none, (.mv (.t 5))⟩,
       ⟨(some 43), none, (.call (.k (.clo 9 [])) [(.t 42)])⟩,
       ⟨(some 44), none, (.call (.k (.clo 8 [])) [(.t 43)])⟩,
       ⟨(some 41), none, (.mv (.t 44))⟩,
       ⟨(some 45), none, (.ex (.t 41) 0)⟩,
       ⟨(some 46), none, (.ex (.t 41) 1)⟩,
       ⟨(some 47), none, (.ex (.t 41) 2)⟩,
       ⟨(some 48), none, (.ex (.t 41) 3)⟩,
       ⟨(some 13), none, (.mv (.t 45))⟩,
       ⟨(some 14), none, (.mv (.t 46))⟩,
       ⟨(some 15), none, (.mv (.t 47))⟩,
       ⟨(some 16), none, (.mv (.t 48))⟩])
     (.seq
      (.seq
       (.reg 4 none [85, 86, 87] [
         ⟨(some 49), none, (.mv (.t 0))⟩,
         ⟨(some 50), none, (.mv (.t 1))⟩,
         ⟨(some 51), none, (.mv (.t 2))⟩,
         ⟨(some 52), none, (.mv (.t 3))⟩,
         ⟨(some 53), none, (.mv (.t 4))⟩,
         ⟨(some 54), none, (.build [(.v (.int .i64 0)), (.v (.int .i64 0)), (.v (.slice none 0 0)), (.v (.slice none 0 0)), (.v (.int .i64 0))] [((0, 1), (.t 49)), ((1, 1), (.t 50)), ((2, 1), (.t 51)), ((3, 1), (.t 52)), ((4, 1), (.t 53))])⟩,
         ⟨(some 55), none, (.mv (.t 13))⟩,
         ⟨(some 56), none, (.mv (.t 14))⟩,
         ⟨(some 57), none, (.mv (.t 15))⟩,
         ⟨(some 58), none, (.mv (.t 3))⟩,
         ⟨(some 59), none, (.mv (.t 16))⟩,
         ⟨(some 60), none, (.build [(.v (.int .i64 0)), (.v (.int .i64 0)), (.v (.slice none 0 0)), (.v (.slice none 0 0)), (.v (.int .i64 0))] [((0, 1), (.t 55)), ((1, 1), (.t 56)), ((2, 1), (.t 57)), ((3, 1), (.t 58)), ((4, 1), (.t 59))])⟩,
         ⟨(some 61), none, (.mv (.t 13))⟩,
         ⟨(some 62), none, (.mv (.t 14))⟩,
         ⟨(some 63), none, (.mv (.t 2))⟩,
         ⟨(some 64), none, (.mv (.t 15))⟩,
         ⟨(some 65), none, (.mv (.t 16))⟩,
         ⟨(some 66), none, (.build [(.v (.int .i64 0)), (.v (.int .i64 0)), (.v (.slice none 0 0)), (.v (.slice none 0 0)), (.v (.int .i64 0))] [((0, 1), (.t 61)), ((1, 1), (.t 62)), ((2, 1), (.t 63)), ((3, 1), (.t 64)), ((4, 1), (.t 65))])⟩,
         ⟨(some 67), none, (.mv (.t 13))⟩,
         ⟨(some 68), none, (.mv (.t 14))⟩,
         ⟨(some 69), none, (.mv (.t 15))⟩,
         ⟨(some 70), none, (.mv (.t 15))⟩,
         ⟨(some 71), none, (.mv (.t 4))⟩,
         ⟨(some 72), none, (.build [(.v (.int .i64 0)), (.v (.int .i64 0)), (.v (.slice none 0 0)), (.v (.slice none 0 0)), (.v (.int .i64 0))] [((0, 1), (.t 67)), ((1, 1), (.t 68)), ((2, 1), (.t 69)), ((3, 1), (.t 70)), ((4, 1), (.t 71))])⟩,
         ⟨(some 73), none, (.mv (.t 0))⟩,
         ⟨(some 74), none, (.mv (.t 14))⟩,
         ⟨(some 75), none, (.mv (.t 15))⟩,
         ⟨(some 76), none, (.mv (.t 15))⟩,
         ⟨(some 77), none, (.mv (.t 16))⟩,
         ⟨(some 78), none, (.build [(.v (.int .i64 0)), (.v (.int .i64 0)), (.v (.slice none 0 0)), (.v (.slice none 0 0)), (.v (.int .i64 0))] [((0, 1), (.t 73)), ((1, 1), (.t 74)), ((2, 1), (.t 75)), ((3, 1), (.t 76)), ((4, 1), (.t 77))])⟩,
         ⟨(some 79), none, (.mv (.t 13))⟩,
         ⟨(some 80), none, (.mv (.t 14))⟩,
         ⟨(some 81), none, (.mv (.t 15))⟩,
         ⟨(some 82), none, (.mv (.t 15))⟩,
         ⟨(some 83), none, (.mv (.t 16))⟩,
         ⟨(some 84), none, (.build [(.v (.int .i64 0)), (.v (.int .i64 0)), (.v (.slice none 0 0)), (.v (.slice none 0 0)), (.v (.int .i64 0))] [((0, 1), (.t 79)), ((1, 1), (.t 80)), ((2, 1), (.t 81)), ((3, 1), (.t 82)), ((4, 1), (.t 83))])⟩,
         ⟨(some 85), none, (.bsl 5 6 [(.t 54), (.t 60), (.t 66), (.t 72), (.t 78), (.t 84)])⟩,
         ⟨(some 86), none, (.lenL (.t 85))⟩,
         ⟨(some 87), none, (.mv (.k (.v (.int .i64 0))))⟩])
       (.block 0
        (.loop
         (.seq
          (.reg 5 none [85, 86, 87, 88] [
            ⟨(some 88), none, (.bin .lss false (.t 87) (.t 86))⟩])
          (.seq
           (.cond (.t 88)
            .skip
            (.exit 0))
           (.seq
            (.block 1
             (.seq
              (.reg 6 none [18, 85, 86, 87] [
                ⟨(some 89), none, (.ixL 5 (.t 85) (.t 87))⟩,
                ⟨(some 90), none, (.ld (some 5) (.t 89))⟩,
                ⟨(some 18), none, (.new (.agg [(.v (.int .i64 0)), (.v (.int .i64 0)), (.v (.slice none 0 0)), (.v (.slice none 0 0)), (.v (.int .i64 0))]))⟩,
                ⟨none, none, (.st 5 (.t 18) (.t 90))⟩])
              (.seq
               (.seq
                (.reg 7 none [18, 85, 86, 87, 100] [
                  ⟨(some 91), none, (.fa 2 (.t 18))⟩,
                  ⟨(some 92), none, (.ld none (.t 91))⟩,
                  ⟨(some 93), none, (.lenL (.t 92))⟩,
                  ⟨(some 94), none, (.bin .gtr false (.t 93) (.k (.v (.int .i64 9))))⟩,
                  ⟨(some 95), none, (.mv (.t 94))⟩,
                  ⟨(some 96), (some (95, true)), (.fa 2 (.t 18))⟩,
                  ⟨(some 97), (some (95, true)), (.ld none (.t 96))⟩,
                  ⟨(some 98), (some (95, true)), (.lenL (.t 97))⟩,
                  ⟨(some 99), (some (95, true)), (.bin .leq false (.t 98) (.k (.v (.int .i64 12))))⟩,
                  ⟨(some 100), none, (.pick (.t 95) (.t 99) (.k (.v (.bool false))))⟩])
                (.cond (.t 100)
                 (.exit 1)
                 .skip))
               (.seq
                (.reg 8 none [18, 19, 20, 85, 86, 87] [
                  ⟨(some 102), none, (.fa 0 (.t 18))⟩,
                  ⟨(some 103), none, (.ld none (.t 102))⟩,
                  ⟨(some 104), none, (.fa 1 (.t 18))⟩,
                  ⟨(some 105), none, (.ld none (.t 104))⟩,
                  ⟨(some 106), none, (.fa 2 (.t 18))⟩,
                  ⟨(some 107), none, (.ld none (.t 106))⟩,
                  ⟨(some 108), none, (.fa 4 (.t 18))⟩,
                  ⟨(some 109), none, (.ld none (.t 108))⟩,
                  ⟨(some 110), none, (.call (.k (.clo 10 [])) [(.t 103), (.t 105), (.t 107), (.t 109)])⟩,
                  ⟨(some 101), none, (.mv (.t 110))⟩,
                  ⟨(some 111), none, (.ex (.t 101) 0)⟩,
                  ⟨(some 112), none, (.ex (.t 101) 1)⟩,
                  ⟨(some 19), none, (.mv (.t 111))⟩,
                  ⟨(some 20), none, (.mv (.t 112))⟩])
                (.seq
                 (.reg 9 none [18, 19, 20, 21, 22, 85, 86, 87] [
                   ⟨(some 114), none, (.fa 0 (.t 18))⟩,
                   ⟨(some 115), none, (.ld none (.t 114))⟩,
                   ⟨(some 116), none, (.fa 1 (.t 18))⟩,
                   ⟨(some 117), none, (.ld none (.t 116))⟩,
                   ⟨(some 118), none, (.fa 2 (.t 18))⟩,
                   ⟨(some 119), none, (.ld none (.t 118))⟩,
                   ⟨(some 120), none, (.fa 4 (.t 18))⟩,
                   ⟨(some 121), none, (.ld none (.t 120))⟩,
                   ⟨(some 122), none, (.call (.k (.clo 14 [])) [(.t 115), (.t 117), (.t 119), (.t 121)])⟩,
                   ⟨(some 113), none, (.mv (.t 122))⟩,
                   ⟨(some 123), none, (.ex (.t 113) 0)⟩,
                   ⟨(some 124), none, (.ex (.t 113) 1)⟩,
                   ⟨(some 21), none, (.mv (.t 123))⟩,
                   ⟨(some 22), none, (.mv (.t 124))⟩])
                 (.seq
                  (.reg 10 none [18, 19, 20, 21, 22, 23, 24, 85, 86, 87] [
                    ⟨(some 126), none, (.fa 0 (.t 18))⟩,
                    ⟨(some 127), none, (.ld none (.t 126))⟩,
                    ⟨(some 128), none, (.fa 1 (.t 18))⟩,
                    ⟨(some 129), none, (.ld none (.t 128))⟩,
                    ⟨(some 130), none, (.fa 2 (.t 18))⟩,
                    ⟨(some 131), none, (.ld none (.t 130))⟩,
                    ⟨(some 132), none, (.fa 3 (.t 18))⟩,
                    ⟨(some 133), none, (.ld none (.t 132))⟩,
                    ⟨(some 134), none, (.fa 4 (.t 18))⟩,
                    ⟨(some 135), none, (.ld none (.t 134))⟩,
                    ⟨(some 136), none, (.call (.k (.clo 11 [])) [(.t 127), (.t 129), (.t 131), (.t 133), (.t 135)])⟩,
                    ⟨(some 125), none, (.mv (.t 136))⟩,
                    ⟨(some 137), none, (.ex (.t 125) 0)⟩,
                    ⟨(some 138), none, (.ex (.t 125) 1)⟩,
                    ⟨(some 23), none, (.mv (.t 137))⟩,
                    ⟨(some 24), none, (.mv (.t 138))⟩])
                  (.seq
                   (.reg 11 none [18, 19, 20, 21, 22, 23, 24, 25, 26, 85, 86, 87] [
                     ⟨(some 140), none, (.fa 0 (.t 18))⟩,
                     ⟨(some 141), none, (.ld none (.t 140))⟩,
                     ⟨(some 142), none, (.fa 1 (.t 18))⟩,
                     ⟨(some 143), none, (.ld none (.t 142))⟩,
                     ⟨(some 144), none, (.fa 2 (.t 18))⟩,
                     ⟨(some 145), none, (.ld none (.t 144))⟩,
                     ⟨(some 146), none, (.fa 3 (.t 18))⟩,
                     ⟨(some 147), none, (.ld none (.t 146))⟩,
                     ⟨(some 148), none, (.fa 4 (.t 18))⟩,
                     ⟨(some 149), none, (.ld none (.t 148))⟩,
                     ⟨(some 150), none, (.call (.k (.clo 15 [])) [(.t 141), (.t 143), (.t 145), (.t 147), (.t 149)])⟩,
                     ⟨(some 139), none, (.mv (.t 150))⟩,
                     ⟨(some 151), none, (.ex (.t 139) 0)⟩,
                     ⟨(some 152), none, (.ex (.t 139) 1)⟩,
                     ⟨(some 25), none, (.mv (.t 151))⟩,
                     ⟨(some 26), none, (.mv (.t 152))⟩])
                   (.seq
                    (.reg 12 none [18, 19, 20, 21, 22, 23, 24, 25, 26, 27, 28, 85, 86, 87] [
                      ⟨(some 154), none, (.fa 2 (.t 18))⟩,
                      ⟨(some 155), none, (.ld none (.t 154))⟩,
                      ⟨(some 156), none, (.fa 4 (.t 18))⟩,
                      ⟨(some 157), none, (.ld none (.t 156))⟩,
                      ⟨(some 158), none, (.call (.k (.clo 16 [])) [(.t 155), (.t 157)])⟩,
                      ⟨(some 153), none, (.mv (.t 158))⟩,
                      ⟨(some 159), none, (.ex (.t 153) 0)⟩,
                      ⟨(some 160), none, (.ex (.t 153) 1)⟩,
                      ⟨(some 27), none, (.mv (.t 159))⟩,
                      ⟨(some 28), none, (.mv (.t 160))⟩])
                    (.seq
                     (.reg 13 none [19, 20, 21, 22, 23, 24, 25, 26, 27, 28, 29, 30, 85, 86, 87] [
                       ⟨(some 162), none, (.fa 2 (.t 18))⟩,
                       ⟨(some 163), none, (.ld none (.t 162))⟩,
                       ⟨(some 164), none, (.fa 4 (.t 18))⟩,
                       ⟨(some 165), none, (.ld none (.t 164))⟩,
                       ⟨(some 166), none, (.call (.k (.clo 17 [])) [(.t 163), (.t 165)])⟩,
                       ⟨(some 161), none, (.mv (.t 166))⟩,
                       ⟨(some 167), none, (.ex (.t 161) 0)⟩,
                       ⟨(some 168), none, (.ex (.t 161) 1)⟩,
                       ⟨(some 29), none, (.mv (.t 167))⟩,
                       ⟨(some 30), none, (.mv (.t 168))⟩])
                     (.seq
                      (.seq
                       (.reg 14 none [27, 29, 85, 86, 87, 199] [
                         ⟨(some 169), none, (.mv (.t 19))⟩,
                         ⟨(some 170), none, (.mv (.t 21))⟩,
                         ⟨(some 171), none, (.call (.k (.clo 13 [])) [(.t 169), (.t 170)])⟩,
                         ⟨(some 172), none, (.un .not (.t 171))⟩,
                         ⟨(some 173), none, (.mv (.t 172))⟩,
                         ⟨(some 174), (some (173, false)), (.mv (.t 20))⟩,
                         ⟨(some 175), (some (173, false)), (.mv (.t 22))⟩,
                         ⟨(some 176), (some (173, false)), (.bin .neq false (.t 174) (.t 175))⟩,
                         ⟨(some 177), none, (.pick (.t 173) (.k (.v (.bool true))) (.t 176))⟩,
                         ⟨(some 178), none, (.mv (.t 177))⟩,
                         ⟨(some 179), (some (178, false)), (.mv (.t 23))⟩,
                         ⟨(some 180), (some (178, false)), (.mv (.t 25))⟩,
                         ⟨(some 181), (some (178, false)), (.bin .neq true (.t 179) (.t 180))⟩,
                         ⟨(some 182), none, (.pick (.t 178) (.k (.v (.bool true))) (.t 181))⟩,
                         ⟨(some 183), none, (.mv (.t 182))⟩,
                         ⟨(some 184), (some (183, false)), (.mv (.t 24))⟩,
                         ⟨(some 185), (some (183, false)), (.mv (.t 26))⟩,
                         ⟨(some 186), (some (183, false)), (.bin .neq false (.t 184) (.t 185))⟩,
                         ⟨(some 187), none, (.pick (.t 183) (.k (.v (.bool true))) (.t 186))⟩,
                         ⟨(some 188), none, (.mv (.t 187))⟩,
                         ⟨(some 189), (some (188, false)), (.mv (.t 27))⟩,
                         ⟨(some 190), (some (188, false)), (.lenL (.t 189))⟩,
                         ⟨(some 191), (some (188, false)), (.mv (.t 29))⟩,
                         ⟨(some 192), (some (188, false)), (.lenL (.t 191))⟩,
                         ⟨(some 193), (some (188, false)), (.bin .neq false (.t 190) (.t 192))⟩,
                         ⟨(some 194), none, (.pick (.t 188) (.k (.v (.bool true))) (.t 193))⟩,
                         ⟨(some 195), none, (.mv (.t 194))⟩,
                         ⟨(some 196), (some (195, false)), (.mv (.t 28))⟩,
                         ⟨(some 197), (some (195, false)), (.mv (.t 30))⟩,
                         ⟨(some 198), (some (195, false)), (.bin .neq false (.t 196) (.t 197))⟩,
                         ⟨(some 199), none, (.pick (.t 195) (.k (.v (.bool true))) (.t 198))⟩])
                       (.cond (.t 199)
                        (.seq
                         (.reg 15 none [12] [
                           ⟨(some 12), none, (.mv (.k (.v (.bool false))))⟩])
                         .ret)
                        .skip))
                      (.seq
                       (.reg 16 none [27, 29, 85, 86, 87, 201, 202] [
                         ⟨(some 200), none, (.mv (.t 27))⟩,
                         ⟨(some 201), none, (.lenL (.t 200))⟩,
                         ⟨(some 202), none, (.mv (.k (.v (.int .i64 0))))⟩])
                       (.block 2
                        (.loop
                         (.seq
                          (.reg 17 none [27, 29, 85, 86, 87, 201, 202, 203] [
                            ⟨(some 203), none, (.bin .lss false (.t 202) (.t 201))⟩])
                          (.seq
                           (.cond (.t 203)
                            .skip
                            (.exit 2))
                           (.seq
                            (.block 3
                             (.seq
                              (.reg 18 none [27, 29, 31, 85, 86, 87, 201, 202] [
                                ⟨(some 204), none, (.mv (.t 202))⟩,
                                ⟨(some 31), none, (.mv (.t 204))⟩])
                              (.seq
                               (.reg 19 (some [0, 0, 3, 7, 0, 0, 48, 112, 255, 511]) [27, 29, 85, 86, 87, 201, 202, 214] [
                                 ⟨(some 205), none, (.mv (.t 27))⟩,
                                 ⟨(some 206), none, (.mv (.t 31))⟩,
                                 ⟨(some 207), none, (.ixL 1 (.t 205) (.t 206))⟩,
                                 ⟨(some 208), none, (.ld none (.t 207))⟩,
                                 ⟨(some 209), none, (.mv (.t 29))⟩,
                                 ⟨(some 210), none, (.mv (.t 31))⟩,
                                 ⟨(some 211), none, (.ixL 1 (.t 209) (.t 210))⟩,
                                 ⟨(some 212), none, (.ld none (.t 211))⟩,
                                 ⟨(some 213), none, (.call (.k (.clo 13 [])) [(.t 208), (.t 212)])⟩,
                                 ⟨(some 214), none, (.un .not (.t 213))⟩])
                               (.cond (.t 214)
                                (.seq
                                 (.reg 20 none [12] [
                                   ⟨(some 12), none, (.mv (.k (.v (.bool false))))⟩])
                                 .ret)
                                .skip))))
                            (.reg 21 none [27, 29, 85, 86, 87, 201, 202] [
                              ⟨(some 215), none, (.bin .add false (.t 202) (.k (.v (.int .i64 1))))⟩,
                              ⟨(some 202), none, (.mv (.t 215))⟩])))))))))))))))))
            (.reg 22 none [85, 86, 87] [
              ⟨(some 216), none, (.bin .add false (.t 87) (.k (.v (.int .i64 1))))⟩,
              ⟨(some 87), none, (.mv (.t 216))⟩])))))))
      (.seq
       (.reg 23 none [12] [
         ⟨(some 217), none, (.call (.k (.clo 12 [])) [])⟩,
         ⟨(some 12), none, (.mv (.t 217))⟩])
       .ret)))))
theorem fn6 : FnIR Try.prog 6 218 [(0, [0, 1, 2, 3, 4, 5]), (1, [0, 1, 2, 3, 4, 5, 39]), (2, [12]), (3, [0, 1, 2, 3, 4, 13, 14, 15, 16]), (4, [85, 86, 87]), (5, [85, 86, 87, 88]), (6, [18, 85, 86, 87]), (7, [18, 85, 86, 87, 100]), (8, [18, 19, 20, 85, 86, 87]), (9, [18, 19, 20, 21, 22, 85, 86, 87]), (10, [18, 19, 20, 21, 22, 23, 24, 85, 86, 87]), (11, [18, 19, 20, 21, 22, 23, 24, 25, 26, 85, 86, 87]), (12, [18, 19, 20, 21, 22, 23, 24, 25, 26, 27, 28, 85, 86, 87]), (13, [19, 20, 21, 22, 23, 24, 25, 26, 27, 28, 29, 30, 85, 86, 87]), (14, [27, 29, 85, 86, 87, 199]), (15, [12]), (16, [27, 29, 85, 86, 87, 201, 202]), (17, [27, 29, 85, 86, 87, 201, 202, 203]), (18, [27, 29, 31, 85, 86, 87, 201, 202]), (19, [27, 29, 85, 86, 87, 201, 202, 214]), (20, [12]), (21, [27, 29, 85, 86, 87, 201, 202]), (22, [85, 86, 87]), (23, [12])] ir6 [(.tmp 12)] :=
  ⟨Try.f6, _, Try.func6, rfl, by kernel_rfl, rfl, by kernel_rfl, by kernel_rfl⟩

/-- dataenclave/dataenclavelaw34.RoundingTurns -/
def ir7 : RC :=
  (.seq
   (.reg 0 none [0] [
     ⟨(some 2), none, (.mv (.k (.v (.bool false))))⟩])
   (.seq
    (.reg 1 none [3, 4, 5, 6] [
      ⟨(some 22), none, (.mv (.t 0))⟩,
      ⟨(some 23), none, (.call (.k (.clo 9 [])) [(.t 22)])⟩,
      ⟨(some 24), none, (.call (.k (.clo 8 [])) [(.t 23)])⟩,
      ⟨(some 21), none, (.mv (.t 24))⟩,
      ⟨(some 25), none, (.ex (.t 21) 0)⟩,
      ⟨(some 26), none, (.ex (.t 21) 1)⟩,
      ⟨(some 27), none, (.ex (.t 21) 2)⟩,
      ⟨(some 28), none, (.ex (.t 21) 3)⟩,
      ⟨(some 3), none, (.mv (.t 25))⟩,
      ⟨(some 4), none, (.mv (.t 26))⟩,
      ⟨(some 5), none, (.mv (.t 27))⟩,
      ⟨(some 6), none, (.mv (.t 28))⟩])
    (.seq
     (.reg 2 none [3, 4, 5, 6, 7, 8] [
       ⟨(some 30), none, (.mv (.t 3))⟩,
       ⟨(some 31), none, (.mv (.t 4))⟩,
       ⟨(some 32), none, (.mv (.t 5))⟩,
       ⟨(some 33), none, (.mv (.t 6))⟩,
       ⟨(some 34), none, (.call (.k (.clo 10 [])) [(.t 30), (.t 31), (.t 32), (.t 33)])⟩,
       ⟨(some 29), none, (.mv (.t 34))⟩,
       ⟨(some 35), none, (.ex (.t 29) 0)⟩,
       ⟨(some 36), none, (.ex (.t 29) 1)⟩,
       ⟨(some 7), none, (.mv (.t 35))⟩,
       ⟨(some 8), none, (.mv (.t 36))⟩])
     (.seq
      (.seq
       (.reg 3 none [3, 4, 5, 6, 7, 45] [
         ⟨(some 37), none, (.mv (.t 8))⟩,
         ⟨(some 38), none, (.bin .neq false (.t 37) (.k (.v (.int .i64 0))))⟩,
         ⟨(some 39), none, (.mv (.t 38))⟩,
         ⟨(some 40), (some (39, false)), (.mv (.t 7))⟩,
         ⟨(some 41), (some (39, false)), (.lenL (.t 40))⟩,
         ⟨(some 42), (some (39, false)), (.mv (.t 5))⟩,
         ⟨(some 43), (some (39, false)), (.lenL (.t 42))⟩,
         ⟨(some 44), (some (39, false)), (.bin .neq false (.t 41) (.t 43))⟩,
         ⟨(some 45), none, (.pick (.t 39) (.k (.v (.bool true))) (.t 44))⟩])
       (.cond (.t 45)
        (.seq
         (.reg 4 none [2] [
           ⟨(some 2), none, (.mv (.k (.v (.bool false))))⟩])
         .ret)
        .skip))
      (.seq
       (.reg 5 (some [0, 1, 3, 0, 8, 24, 7, 127]) [3, 4, 5, 6, 7, 9, 10] [
         ⟨(some 46), none, (.mv (.t 5))⟩,
         ⟨(some 47), none, (.lenL (.t 46))⟩,
         ⟨(some 48), none, (.mk 1 8 (.v (.int .i64 0)) (.t 47) (.t 47))⟩,
         ⟨(some 49), none, (.mv (.t 5))⟩,
         ⟨(some 50), none, (.lenL (.t 49))⟩,
         ⟨(some 51), none, (.mk 1 8 (.v (.int .i64 0)) (.t 50) (.t 50))⟩,
         ⟨(some 9), none, (.mv (.t 48))⟩,
         ⟨(some 10), none, (.mv (.t 51))⟩])
       (.seq
        (.seq
         (.reg 6 none [3, 4, 5, 6, 7, 9, 10, 53, 54] [
           ⟨(some 52), none, (.mv (.t 5))⟩,
           ⟨(some 53), none, (.lenL (.t 52))⟩,
           ⟨(some 54), none, (.mv (.k (.v (.int .i64 0))))⟩])
         (.block 0
          (.loop
           (.seq
            (.reg 7 none [3, 4, 5, 6, 7, 9, 10, 53, 54, 55] [
              ⟨(some 55), none, (.bin .lss false (.t 54) (.t 53))⟩])
            (.seq
             (.cond (.t 55)
              .skip
              (.exit 0))
             (.seq
              (.block 1
               (.seq
                (.reg 8 none [3, 4, 5, 6, 7, 9, 10, 11, 53, 54] [
                  ⟨(some 56), none, (.mv (.t 54))⟩,
                  ⟨(some 11), none, (.mv (.t 56))⟩])
                (.seq
                 (.reg 9 (some [0, 0, 3, 0, 15, 0, 0, 96, 255, 511]) [3, 4, 5, 6, 7, 9, 10, 11, 12, 53, 54] [
                   ⟨(some 57), none, (.mv (.t 11))⟩,
                   ⟨(some 58), none, (.mv (.t 4))⟩,
                   ⟨(some 59), none, (.bin .rem false (.t 57) (.t 58))⟩,
                   ⟨(some 60), none, (.mv (.t 3))⟩,
                   ⟨(some 61), none, (.bin .mul false (.t 59) (.t 60))⟩,
                   ⟨(some 62), none, (.mv (.t 11))⟩,
                   ⟨(some 63), none, (.mv (.t 4))⟩,
                   ⟨(some 64), none, (.bin .quo false (.t 62) (.t 63))⟩,
                   ⟨(some 65), none, (.bin .add false (.t 61) (.t 64))⟩,
                   ⟨(some 12), none, (.mv (.t 65))⟩])
                 (.reg 10 (some [0, 0, 0, 0, 0, 0, 48, 112, 0, 0, 768, 1792, 4083, 8179, 16383, 32767]) [3, 4, 5, 6, 7, 9, 10, 53, 54] [
                   ⟨(some 66), none, (.mv (.t 9))⟩,
                   ⟨(some 67), none, (.mv (.t 12))⟩,
                   ⟨(some 68), none, (.mv (.t 10))⟩,
                   ⟨(some 69), none, (.mv (.t 12))⟩,
                   ⟨(some 70), none, (.mv (.t 5))⟩,
                   ⟨(some 71), none, (.mv (.t 11))⟩,
                   ⟨(some 72), none, (.ixL 1 (.t 70) (.t 71))⟩,
                   ⟨(some 73), none, (.ld none (.t 72))⟩,
                   ⟨(some 74), none, (.mv (.t 7))⟩,
                   ⟨(some 75), none, (.mv (.t 11))⟩,
                   ⟨(some 76), none, (.ixL 1 (.t 74) (.t 75))⟩,
                   ⟨(some 77), none, (.ld none (.t 76))⟩,
                   ⟨(some 78), none, (.ixL 1 (.t 66) (.t 67))⟩,
                   ⟨none, none, (.st 1 (.t 78) (.t 73))⟩,
                   ⟨(some 79), none, (.ixL 1 (.t 68) (.t 69))⟩,
                   ⟨none, none, (.st 1 (.t 79) (.t 77))⟩]))))
              (.reg 11 none [3, 4, 5, 6, 7, 9, 10, 53, 54] [
                ⟨(some 80), none, (.bin .add false (.t 54) (.k (.v (.int .i64 1))))⟩,
                ⟨(some 54), none, (.mv (.t 80))⟩])))))))
        (.seq
         (.reg 12 none [5, 6, 7, 13, 14] [
           ⟨(some 82), none, (.mv (.t 4))⟩,
           ⟨(some 83), none, (.mv (.t 3))⟩,
           ⟨(some 84), none, (.mv (.t 9))⟩,
           ⟨(some 85), none, (.mv (.t 10))⟩,
           ⟨(some 86), none, (.mv (.t 6))⟩,
           ⟨(some 87), none, (.call (.k (.clo 11 [])) [(.t 82), (.t 83), (.t 84), (.t 85), (.t 86)])⟩,
           ⟨(some 81), none, (.mv (.t 87))⟩,
           ⟨(some 88), none, (.ex (.t 81) 0)⟩,
           ⟨(some 89), none, (.ex (.t 81) 1)⟩,
           ⟨(some 13), none, (.mv (.t 88))⟩,
           ⟨(some 14), none, (.mv (.t 89))⟩])
         (.seq
          (.reg 13 none [5, 6, 7, 13, 14, 15, 16] [
            ⟨(some 91), none, (.mv (.t 5))⟩,
            ⟨(some 92), none, (.mv (.t 6))⟩,
            ⟨(some 93), none, (.call (.k (.clo 16 [])) [(.t 91), (.t 92)])⟩,
            ⟨(some 90), none, (.mv (.t 93))⟩,
            ⟨(some 94), none, (.ex (.t 90) 0)⟩,
            ⟨(some 95), none, (.ex (.t 90) 1)⟩,
            ⟨(some 15), none, (.mv (.t 94))⟩,
            ⟨(some 16), none, (.mv (.t 95))⟩])
          (.seq
           (.seq
            (.reg 14 none [5, 6, 7, 13, 14, 15, 104] [
              ⟨(some 96), none, (.mv (.t 16))⟩,
              ⟨(some 97), none, (.bin .neq false (.t 96) (.k (.v (.int .i64 0))))⟩,
              ⟨(some 98), none, (.mv (.t 97))⟩,
              ⟨(some 99), (some (98, false)), (.mv (.t 15))⟩,
              ⟨(some 100), (some (98, false)), (.lenL (.t 99))⟩,
              ⟨(some 101), (some (98, false)), (.mv (.t 5))⟩,
              ⟨(some 102), (some (98, false)), (.lenL (.t 101))⟩,
              ⟨(some 103), (some (98, false)), (.bin .neq false (.t 100) (.t 102))⟩,
              ⟨(some 104), none, (.pick (.t 98) (.k (.v (.bool true))) (.t 103))⟩])
            (.cond (.t 104)
             (.seq
              (.reg 15 none [2] [
                ⟨(some 2), none, (.mv (.k (.v (.bool false))))⟩])
              .ret)
             .skip))
           (.seq
            (.seq
             (.reg 16 none [5, 6, 7, 13, 14, 15, 106, 107] [
               ⟨(some 105), none, (.mv (.t 15))⟩,
               ⟨(some 106), none, (.lenL (.t 105))⟩,
               ⟨(some 107), none, (.mv (.k (.v (.int .i64 0))))⟩])
             (.block 2
              (.loop
               (.seq
                (.reg 17 none [5, 6, 7, 13, 14, 15, 106, 107, 108] [
                  ⟨(some 108), none, (.bin .lss false (.t 107) (.t 106))⟩])
                (.seq
                 (.cond (.t 108)
                  .skip
                  (.exit 2))
                 (.seq
                  (.block 3
                   (.seq
                    (.reg 18 none [5, 6, 7, 13, 14, 15, 17, 106, 107] [
                      ⟨(some 109), none, (.mv (.t 107))⟩,
                      ⟨(some 17), none, (.mv (.t 109))⟩])
                    (.seq
                     (.reg 19 none [5, 6, 7, 13, 14, 15, 17, 18, 106, 107] [
                       ⟨(some 18), none, (.mv (.k (.v (.bool false))))⟩])
                     (.seq
                      (.seq
                       (.reg 20 none [5, 6, 7, 13, 14, 15, 17, 18, 106, 107, 113, 114, 115] [
                         ⟨(some 110), none, (.mv (.t 15))⟩,
                         ⟨(some 111), none, (.mv (.t 17))⟩,
                         ⟨(some 112), none, (.ixL 1 (.t 110) (.t 111))⟩,
                         ⟨(some 113), none, (.ld none (.t 112))⟩,
                         ⟨(some 114), none, (.lenL (.t 113))⟩,
                         ⟨(some 115), none, (.mv (.k (.v (.int .i64 0))))⟩])
                       (.block 4
                        (.loop
                         (.seq
                          (.reg 21 none [5, 6, 7, 13, 14, 15, 17, 18, 106, 107, 113, 114, 115, 116] [
                            ⟨(some 116), none, (.bin .lss false (.t 115) (.t 114))⟩])
                          (.seq
                           (.cond (.t 116)
                            .skip
                            (.exit 4))
                           (.seq
                            (.block 5
                             (.seq
                              (.reg 22 none [5, 6, 7, 13, 14, 15, 17, 18, 20, 106, 107, 113, 114, 115] [
                                ⟨(some 117), none, (.ixL 1 (.t 113) (.t 115))⟩,
                                ⟨(some 118), none, (.ld none (.t 117))⟩,
                                ⟨(some 20), none, (.mv (.t 118))⟩])
                              (.reg 23 none [5, 6, 7, 13, 14, 15, 17, 18, 106, 107, 113, 114, 115] [
                                ⟨(some 119), none, (.mv (.t 18))⟩,
                                ⟨(some 120), none, (.mv (.t 119))⟩,
                                ⟨(some 121), (some (120, false)), (.mv (.t 20))⟩,
                                ⟨(some 122), (some (120, false)), (.mv (.t 7))⟩,
                                ⟨(some 123), (some (120, false)), (.mv (.t 17))⟩,
                                ⟨(some 124), (some (120, false)), (.ixL 1 (.t 122) (.t 123))⟩,
                                ⟨(some 125), (some (120, false)), (.ld none (.t 124))⟩,
                                ⟨(some 126), (some (120, false)), (.bin .eql false (.t 121) (.t 125))⟩,
                                ⟨(some 127), none, (.pick (.t 120) (.k (.v (.bool true))) (.t 126))⟩,
                                ⟨(some 18), none, (.mv (.t 127))⟩])))
                            (.reg 24 none [5, 6, 7, 13, 14, 15, 17, 18, 106, 107, 113, 114, 115] [
                              ⟨(some 128), none, (.bin .add false (.t 115) (.k (.v (.int .i64 1))))⟩,
                              ⟨(some 115), none, (.mv (.t 128))⟩])))))))
                      (.seq
                       (.reg 25 (some [0, 1, 3, 7, 7, 31, 63, 127, 7, 7, 775, 1799, 7, 7943, 16135, 32519, 65535, 131071]) [5, 6, 7, 13, 14, 15, 106, 107, 146] [
                         ⟨(some 129), none, (.mv (.t 18))⟩,
                         ⟨(some 130), none, (.un .not (.t 129))⟩,
                         ⟨(some 131), none, (.mv (.t 130))⟩,
                         ⟨(some 132), (some (131, false)), (.mv (.t 15))⟩,
                         ⟨(some 133), (some (131, false)), (.mv (.t 17))⟩,
                         ⟨(some 134), (some (131, false)), (.ixL 1 (.t 132) (.t 133))⟩,
                         ⟨(some 135), (some (131, false)), (.ld none (.t 134))⟩,
                         ⟨(some 136), (some (131, false)), (.lenL (.t 135))⟩,
                         ⟨(some 137), (some (131, false)), (.mv (.t 5))⟩,
                         ⟨(some 138), (some (131, false)), (.mv (.t 17))⟩,
                         ⟨(some 139), (some (131, false)), (.ixL 1 (.t 137) (.t 138))⟩,
                         ⟨(some 140), (some (131, false)), (.ld none (.t 139))⟩,
                         ⟨(some 141), (some (131, false)), (.mv (.t 6))⟩,
                         ⟨(some 142), (some (131, false)), (.bin .rem false (.t 140) (.t 141))⟩,
                         ⟨(some 143), (some (131, false)), (.mn [(.k (.v (.int .i64 1))), (.t 142)])⟩,
                         ⟨(some 144), (some (131, false)), (.bin .add false (.k (.v (.int .i64 1))) (.t 143))⟩,
                         ⟨(some 145), (some (131, false)), (.bin .neq false (.t 136) (.t 144))⟩,
                         ⟨(some 146), none, (.pick (.t 131) (.k (.v (.bool true))) (.t 145))⟩])
                       (.cond (.t 146)
                        (.seq
                         (.reg 26 none [2] [
                           ⟨(some 2), none, (.mv (.k (.v (.bool false))))⟩])
                         .ret)
                        .skip))))))
                  (.reg 27 none [5, 6, 7, 13, 14, 15, 106, 107] [
                    ⟨(some 147), none, (.bin .add false (.t 107) (.k (.v (.int .i64 1))))⟩,
                    ⟨(some 107), none, (.mv (.t 147))⟩])))))))
            (.seq
             (.reg 28 none [2] [
               ⟨(some 148), none, (.mv (.t 14))⟩,
               ⟨(some 149), none, (.bin .eql false (.t 148) (.k (.v (.int .i64 0))))⟩,
               ⟨(some 150), none, (.mv (.t 149))⟩,
               ⟨(some 151), (some (150, true)), (.mv (.t 13))⟩,
               ⟨(some 152), none, (.pick (.t 150) (.t 151) (.k (.v (.bool false))))⟩,
               ⟨(some 153), none, (.mv (.t 152))⟩,
               ⟨(some 154), (some (153, true)), (.call (.k (.clo 12 [])) [])⟩,
               ⟨(some 155), none, (.pick (.t 153) (.t 154) (.k (.v (.bool false))))⟩,
               ⟨(some 2), none, (.mv (.t 155))⟩])
             .ret)))))))))))
theorem fn7 : FnIR Try.prog 7 156 [(0, [0]), (1, [3, 4, 5, 6]), (2, [3, 4, 5, 6, 7, 8]), (3, [3, 4, 5, 6, 7, 45]), (4, [2]), (5, [3, 4, 5, 6, 7, 9, 10]), (6, [3, 4, 5, 6, 7, 9, 10, 53, 54]), (7, [3, 4, 5, 6, 7, 9, 10, 53, 54, 55]), (8, [3, 4, 5, 6, 7, 9, 10, 11, 53, 54]), (9, [3, 4, 5, 6, 7, 9, 10, 11, 12, 53, 54]), (10, [3, 4, 5, 6, 7, 9, 10, 53, 54]), (11, [3, 4, 5, 6, 7, 9, 10, 53, 54]), (12, [5, 6, 7, 13, 14]), (13, [5, 6, 7, 13, 14, 15, 16]), (14, [5, 6, 7, 13, 14, 15, 104]), (15, [2]), (16, [5, 6, 7, 13, 14, 15, 106, 107]), (17, [5, 6, 7, 13, 14, 15, 106, 107, 108]), (18, [5, 6, 7, 13, 14, 15, 17, 106, 107]), (19, [5, 6, 7, 13, 14, 15, 17, 18, 106, 107]), (20, [5, 6, 7, 13, 14, 15, 17, 18, 106, 107, 113, 114, 115]), (21, [5, 6, 7, 13, 14, 15, 17, 18, 106, 107, 113, 114, 115, 116]), (22, [5, 6, 7, 13, 14, 15, 17, 18, 20, 106, 107, 113, 114, 115]), (23, [5, 6, 7, 13, 14, 15, 17, 18, 106, 107, 113, 114, 115]), (24, [5, 6, 7, 13, 14, 15, 17, 18, 106, 107, 113, 114, 115]), (25, [5, 6, 7, 13, 14, 15, 106, 107, 146]), (26, [2]), (27, [5, 6, 7, 13, 14, 15, 106, 107]), (28, [2])] ir7 [(.tmp 2)] :=
  ⟨Try.f7, _, Try.func7, rfl, by kernel_rfl, rfl, by kernel_rfl, by kernel_rfl⟩

/-- dataenclave/dataenclavelaw34.table -/
def ir8 : RC :=
  (.seq
   (.reg 0 none [0] [
     ⟨(some 2), none, (.mv (.k (.v (.int .i64 0))))⟩,
     ⟨(some 3), none, (.mv (.k (.v (.int .i64 0))))⟩,
     ⟨(some 4), none, (.mv (.k (.v (.slice none 0 0))))⟩,
     ⟨(some 5), none, (.mv (.k (.v (.int .i64 0))))⟩])
   (.seq
    (.reg 1 none [0, 6, 7] [
      ⟨(some 10), none, (.mv (.t 0))⟩,
      ⟨(some 11), none, (.call (.k (.clo 18 [])) [(.t 10), (.k (.v (.int .i64 1))), (.k (.v (.int .i64 3)))])⟩,
      ⟨(some 12), none, (.mv (.t 0))⟩,
      ⟨(some 13), none, (.call (.k (.clo 18 [])) [(.t 12), (.k (.v (.int .i64 1))), (.k (.v (.int .i64 3)))])⟩,
      ⟨(some 6), none, (.mv (.t 11))⟩,
      ⟨(some 7), none, (.mv (.t 13))⟩])
    (.seq
     (.reg 2 none [0, 6, 7, 8] [
       ⟨(some 8), none, (.mv (.k (.v (.slice none 0 0))))⟩])
     (.seq
      (.seq
       (.reg 3 none [0, 6, 7, 8, 9] [
         ⟨(some 9), none, (.mv (.k (.v (.int .i64 0))))⟩])
       (.block 0
        (.loop
         (.seq
          (.seq
           (.reg 4 none [0, 6, 7, 8, 9, 18] [
             ⟨(some 14), none, (.mv (.t 9))⟩,
             ⟨(some 15), none, (.mv (.t 6))⟩,
             ⟨(some 16), none, (.mv (.t 7))⟩,
             ⟨(some 17), none, (.bin .mul false (.t 15) (.t 16))⟩,
             ⟨(some 18), none, (.bin .lss false (.t 14) (.t 17))⟩])
           (.cond (.t 18)
            .skip
            (.exit 0)))
          (.seq
           (.block 1
            (.reg 6 none [0, 6, 7, 8, 9] [
              ⟨(some 21), none, (.mv (.t 8))⟩,
              ⟨(some 22), none, (.mv (.t 0))⟩,
              ⟨(some 23), none, (.call (.k (.clo 19 [])) [(.t 22), (.k (.v (.int .i64 30)))])⟩,
              ⟨(some 24), none, (.bsl 1 1 [(.t 23)])⟩,
              ⟨(some 25), none, (.app 1 8 false (.t 21) (.t 24))⟩,
              ⟨(some 8), none, (.mv (.t 25))⟩]))
           (.reg 5 none [0, 6, 7, 8, 9] [
             ⟨(some 19), none, (.mv (.t 9))⟩,
             ⟨(some 20), none, (.bin .add false (.t 19) (.k (.v (.int .i64 1))))⟩,
             ⟨(some 9), none, (.mv (.t 20))⟩]))))))
      (.seq
       (.reg 7 none [2, 3, 4, 5] [
         ⟨(some 26), none, (.mv (.t 6))⟩,
         ⟨(some 27), none, (.mv (.t 7))⟩,
         ⟨(some 28), none, (.mv (.t 8))⟩,
         ⟨(some 29), none, (.mv (.t 0))⟩,
         ⟨(some 30), none, (.call (.k (.clo 18 [])) [(.t 29), (.k (.v (.int .i64 1))), (.k (.v (.int .i64 10)))])⟩,
         ⟨(some 2), none, (.mv (.t 26))⟩,
         ⟨(some 3), none, (.mv (.t 27))⟩,
         ⟨(some 4), none, (.mv (.t 28))⟩,
         ⟨(some 5), none, (.mv (.t 30))⟩])
       .ret)))))
theorem fn8 : FnIR Try.prog 8 31 [(0, [0]), (1, [0, 6, 7]), (2, [0, 6, 7, 8]), (3, [0, 6, 7, 8, 9]), (4, [0, 6, 7, 8, 9, 18]), (5, [0, 6, 7, 8, 9]), (6, [0, 6, 7, 8, 9]), (7, [2, 3, 4, 5])] ir8 [(.tmp 2), (.tmp 3), (.tmp 4), (.tmp 5)] :=
  ⟨Try.f8, _, Try.func8, rfl, by kernel_rfl, rfl, by kernel_rfl, by kernel_rfl⟩

/-- dataenclave/dataenclavedraw.New -/
def ir9 : RC :=
  (.seq
   (.reg 0 none [0] [
     ⟨(some 2), none, (.mv (.k (.v (.pointer none))))⟩])
   (.seq
    (.reg 1 none [2] [
      ⟨(some 3), none, (.mv (.t 0))⟩,
      ⟨(some 4), none, (.mv (.t 0))⟩,
      ⟨(some 5), none, (.lenL (.t 4))⟩,
      ⟨(some 6), none, (.mn [(.t 5), (.k (.v (.int .i64 400)))])⟩,
      ⟨(some 7), none, (.slL 1 (.t 3) none (some (.t 6)))⟩,
      ⟨(some 8), none, (.build [(.v (.slice none 0 0)), (.v (.int .i64 0))] [((0, 1), (.t 7))])⟩,
      ⟨(some 9), none, (.box (.t 8))⟩,
      ⟨(some 2), none, (.mv (.t 9))⟩])
    .ret))
theorem fn9 : FnIR Try.prog 9 10 [(0, [0]), (1, [2])] ir9 [(.tmp 2)] :=
  ⟨Try.f9, _, Try.func9, rfl, by kernel_rfl, rfl, by kernel_rfl, by kernel_rfl⟩

/-- dataenclave/rounding.Round -/
def ir10 : RC :=
  (.seq
   (.reg 0 none [0, 1, 2, 3] [
     ⟨(some 8), none, (.mv (.k (.v (.slice none 0 0))))⟩,
     ⟨(some 9), none, (.mv (.k (.v (.int .i64 0))))⟩])
   (.seq
    (.seq
     (.reg 1 none [1, 2, 3, 10] [
       ⟨(some 12), none, (.mv (.t 0))⟩,
       ⟨(some 13), none, (.mv (.t 1))⟩,
       ⟨(some 14), none, (.mv (.t 2))⟩,
       ⟨(some 15), none, (.mv (.t 3))⟩,
       ⟨(some 16), none, (.call (.k (.clo 20 [])) [(.t 12), (.t 13), (.t 14), (.t 15)])⟩,
       ⟨(some 10), none, (.mv (.t 16))⟩])
     (.seq
      (.reg 2 none [1, 2, 3, 10, 18] [
        ⟨(some 17), none, (.mv (.t 10))⟩,
        ⟨(some 18), none, (.bin .neq false (.t 17) (.k (.v (.int .i64 0))))⟩])
      (.cond (.t 18)
       (.seq
        (.reg 3 none [8, 9] [
          ⟨(some 19), none, (.mv (.t 10))⟩,
          ⟨(some 8), none, (.mv (.k (.v (.slice none 0 0))))⟩,
          ⟨(some 9), none, (.mv (.t 19))⟩])
        .ret)
       .skip)))
    (.seq
     (.reg 4 (some [0, 0, 0, 0, 8, 24, 0, 0, 192, 511, 1023, 2047]) [11] [
       ⟨(some 20), none, (.mv (.t 1))⟩,
       ⟨(some 21), none, (.mv (.t 3))⟩,
       ⟨(some 22), none, (.mv (.t 2))⟩,
       ⟨(some 23), none, (.mv (.t 2))⟩,
       ⟨(some 24), none, (.lenL (.t 23))⟩,
       ⟨(some 25), none, (.mk 1 8 (.v (.int .i64 0)) (.t 24) (.t 24))⟩,
       ⟨(some 26), none, (.mv (.t 1))⟩,
       ⟨(some 27), none, (.mv (.t 2))⟩,
       ⟨(some 28), none, (.call (.k (.clo 21 [])) [(.t 26), (.t 27)])⟩,
       ⟨(some 29), none, (.build [(.v (.int .i64 0)), (.v (.int .i64 0)), (.v (.slice none 0 0)), (.v (.slice none 0 0)), (.v (.slice none 0 0)), (.v (.int .i64 0)), (.v (.int .i64 0)), (.v (.int .i64 0)), (.v (.int .i64 0)), (.v (.int .i64 0)), (.v (.int .i64 0)), (.v (.int .i64 0)), (.v (.int .i64 0)), (.v (.int .i64 0)), (.v (.int .i64 0)), (.v (.int .i64 0)), (.v (.int .i64 0)), (.v (.int .i64 0)), (.v (.int .i64 0))] [((0, 1), (.t 20)), ((1, 1), (.t 21)), ((2, 1), (.t 22)), ((3, 1), (.t 25)), ((4, 1), (.t 28))])⟩,
       ⟨(some 30), none, (.box (.t 29))⟩,
       ⟨(some 11), none, (.mv (.t 30))⟩])
     (.seq
      (.reg 5 none [11] [
        ⟨(some 31), none, (.mv (.t 11))⟩,
        ⟨(some 32), none, (.call (.k (.clo 22 [])) [(.t 31), (.k (.v (.int .i64 0)))])⟩])
      (.seq
       (.reg 6 none [8, 9] [
         ⟨(some 33), none, (.mv (.t 11))⟩,
         ⟨(some 34), none, (.nc (.t 33))⟩,
         ⟨(some 35), none, (.fa 3 (.t 34))⟩,
         ⟨(some 36), none, (.ld none (.t 35))⟩,
         ⟨(some 8), none, (.mv (.t 36))⟩,
         ⟨(some 9), none, (.mv (.k (.v (.int .i64 0))))⟩])
       .ret)))))
theorem fn10 : FnIR Try.prog 10 37 [(0, [0, 1, 2, 3]), (1, [1, 2, 3, 10]), (2, [1, 2, 3, 10, 18]), (3, [8, 9]), (4, [11]), (5, [11]), (6, [8, 9])] ir10 [(.tmp 8), (.tmp 9)] :=
  ⟨Try.f10, _, Try.func10, rfl, by kernel_rfl, rfl, by kernel_rfl, by kernel_rfl⟩

/-- dataenclave/rounding.Check -/
def ir11 : RC :=
  (.seq
   (.reg 0 none [0, 1, 2, 3, 4] [
     ⟨(some 10), none, (.mv (.k (.v (.bool false))))⟩,
     ⟨(some 11), none, (.mv (.k (.v (.int .i64 0))))⟩])
   (.seq
    (.reg 1 none [0, 1, 2, 3, 4, 12] [
      ⟨(some 13), none, (.mv (.t 0))⟩,
      ⟨(some 14), none, (.mv (.t 1))⟩,
      ⟨(some 15), none, (.mv (.t 2))⟩,
      ⟨(some 16), none, (.mv (.t 4))⟩,
      ⟨(some 17), none, (.call (.k (.clo 20 [])) [(.t 13), (.t 14), (.t 15), (.t 16)])⟩,
      ⟨(some 12), none, (.mv (.t 17))⟩])
    (.seq
     (.seq
      (.reg 2 none [0, 1, 2, 3, 4, 12, 19] [
        ⟨(some 18), none, (.mv (.t 12))⟩,
        ⟨(some 19), none, (.bin .eql false (.t 18) (.k (.v (.int .i64 55))))⟩])
      (.cond (.t 19)
       (.seq
        (.reg 3 none [10, 11] [
          ⟨(some 20), none, (.mv (.t 12))⟩,
          ⟨(some 10), none, (.mv (.k (.v (.bool false))))⟩,
          ⟨(some 11), none, (.mv (.t 20))⟩])
        .ret)
       .skip))
     (.seq
      (.seq
       (.reg 4 none [1, 2, 3, 4, 12, 26] [
         ⟨(some 21), none, (.mv (.t 3))⟩,
         ⟨(some 22), none, (.lenL (.t 21))⟩,
         ⟨(some 23), none, (.mv (.t 0))⟩,
         ⟨(some 24), none, (.mv (.t 1))⟩,
         ⟨(some 25), none, (.bin .mul false (.t 23) (.t 24))⟩,
         ⟨(some 26), none, (.bin .neq false (.t 22) (.t 25))⟩])
       (.cond (.t 26)
        (.seq
         (.reg 5 none [10, 11] [
           ⟨(some 10), none, (.mv (.k (.v (.bool false))))⟩,
           ⟨(some 11), none, (.mv (.k (.v (.int .i64 17))))⟩])
         .ret)
        .skip))
      (.seq
       (.seq
        (.reg 6 none [1, 2, 3, 4, 12, 28] [
          ⟨(some 27), none, (.mv (.t 12))⟩,
          ⟨(some 28), none, (.bin .neq false (.t 27) (.k (.v (.int .i64 0))))⟩])
        (.cond (.t 28)
         (.seq
          (.reg 7 none [10, 11] [
            ⟨(some 29), none, (.mv (.t 12))⟩,
            ⟨(some 10), none, (.mv (.k (.v (.bool false))))⟩,
            ⟨(some 11), none, (.mv (.t 29))⟩])
          .ret)
         .skip))
       (.seq
        (.reg 8 none [10, 11] [
          ⟨(some 30), none, (.mv (.t 2))⟩,
          ⟨(some 31), none, (.mv (.t 3))⟩,
          ⟨(some 32), none, (.mv (.t 4))⟩,
          ⟨(some 33), none, (.call (.k (.clo 23 [])) [(.t 30), (.t 31), (.t 32)])⟩,
          ⟨(some 34), none, (.mv (.t 33))⟩,
          ⟨(some 35), (some (34, true)), (.mv (.t 1))⟩,
          ⟨(some 36), (some (34, true)), (.mv (.t 2))⟩,
          ⟨(some 37), (some (34, true)), (.call (.k (.clo 21 [])) [(.t 35), (.t 36)])⟩,
          ⟨(some 38), (some (34, true)), (.mv (.t 1))⟩,
          ⟨(some 39), (some (34, true)), (.mv (.t 3))⟩,
          ⟨(some 40), (some (34, true)), (.call (.k (.clo 21 [])) [(.t 38), (.t 39)])⟩,
          ⟨(some 41), (some (34, true)), (.mv (.t 4))⟩,
          ⟨(some 42), (some (34, true)), (.call (.k (.clo 23 [])) [(.t 37), (.t 40), (.t 41)])⟩,
          ⟨(some 43), none, (.pick (.t 34) (.t 42) (.k (.v (.bool false))))⟩,
          ⟨(some 10), none, (.mv (.t 43))⟩,
          ⟨(some 11), none, (.mv (.k (.v (.int .i64 0))))⟩])
        .ret))))))
theorem fn11 : FnIR Try.prog 11 44 [(0, [0, 1, 2, 3, 4]), (1, [0, 1, 2, 3, 4, 12]), (2, [0, 1, 2, 3, 4, 12, 19]), (3, [10, 11]), (4, [1, 2, 3, 4, 12, 26]), (5, [10, 11]), (6, [1, 2, 3, 4, 12, 28]), (7, [10, 11]), (8, [10, 11])] ir11 [(.tmp 10), (.tmp 11)] :=
  ⟨Try.f11, _, Try.func11, rfl, by kernel_rfl, rfl, by kernel_rfl, by kernel_rfl⟩

/-- dataenclave/dataenclavelaw34.awake -/
def ir12 : RC :=
  (.seq
   (.reg 0 none [] [
     ⟨(some 0), none, (.mv (.k (.v (.bool false))))⟩])
   (.seq
    (.reg 1 none [1, 2] [
      ⟨(some 6), none, (.bsl 1 4 [(.k (.v (.int .i64 1))), (.k (.v (.int .i64 1))), (.k (.v (.int .i64 1))), (.k (.v (.int .i64 2)))])⟩,
      ⟨(some 7), none, (.call (.k (.clo 10 [])) [(.k (.v (.int .i64 2))), (.k (.v (.int .i64 2))), (.t 6), (.k (.v (.int .i64 3)))])⟩,
      ⟨(some 5), none, (.mv (.t 7))⟩,
      ⟨(some 8), none, (.ex (.t 5) 0)⟩,
      ⟨(some 9), none, (.ex (.t 5) 1)⟩,
      ⟨(some 1), none, (.mv (.t 8))⟩,
      ⟨(some 2), none, (.mv (.t 9))⟩])
    (.seq
     (.reg 2 none [1, 2, 3, 4] [
       ⟨(some 11), none, (.bsl 1 4 [(.k (.v (.int .i64 1))), (.k (.v (.int .i64 1))), (.k (.v (.int .i64 1))), (.k (.v (.int .i64 2)))])⟩,
       ⟨(some 12), none, (.bsl 1 4 [(.k (.v (.int .i64 0))), (.k (.v (.int .i64 0))), (.k (.v (.int .i64 0))), (.k (.v (.int .i64 3)))])⟩,
       ⟨(some 13), none, (.call (.k (.clo 11 [])) [(.k (.v (.int .i64 2))), (.k (.v (.int .i64 2))), (.t 11), (.t 12), (.k (.v (.int .i64 3)))])⟩,
       ⟨(some 10), none, (.mv (.t 13))⟩,
       ⟨(some 14), none, (.ex (.t 10) 0)⟩,
       ⟨(some 15), none, (.ex (.t 10) 1)⟩,
       ⟨(some 3), none, (.mv (.t 14))⟩,
       ⟨(some 4), none, (.mv (.t 15))⟩])
     (.seq
      (.reg 3 none [0] [
        ⟨(some 16), none, (.mv (.t 2))⟩,
        ⟨(some 17), none, (.bin .eql false (.t 16) (.k (.v (.int .i64 0))))⟩,
        ⟨(some 18), none, (.mv (.t 17))⟩,
        ⟨(some 19), (some (18, true)), (.mv (.t 1))⟩,
        ⟨(some 20), (some (18, true)), (.bsl 1 4 [(.k (.v (.int .i64 0))), (.k (.v (.int .i64 0))), (.k (.v (.int .i64 0))), (.k (.v (.int .i64 3)))])⟩,
        ⟨(some 21), (some (18, true)), (.call (.k (.clo 13 [])) [(.t 19), (.t 20)])⟩,
        ⟨(some 22), none, (.pick (.t 18) (.t 21) (.k (.v (.bool false))))⟩,
        ⟨(some 23), none, (.mv (.t 22))⟩,
        ⟨(some 24), (some (23, true)), (.mv (.t 4))⟩,
        ⟨(some 25), (some (23, true)), (.bin .eql false (.t 24) (.k (.v (.int .i64 0))))⟩,
        ⟨(some 26), none, (.pick (.t 23) (.t 25) (.k (.v (.bool false))))⟩,
        ⟨(some 27), none, (.mv (.t 26))⟩,
        ⟨(some 28), (some (27, true)), (.mv (.t 3))⟩,
        ⟨(some 29), none, (.pick (.t 27) (.t 28) (.k (.v (.bool false))))⟩,
        ⟨(some 0), none, (.mv (.t 29))⟩])
      .ret))))
theorem fn12 : FnIR Try.prog 12 30 [(1, [1, 2]), (2, [1, 2, 3, 4]), (3, [0])] ir12 [(.tmp 0)] :=
  ⟨Try.f12, _, Try.func12, rfl, by kernel_rfl, rfl, by kernel_rfl, by kernel_rfl⟩

/-- dataenclave/dataenclaveref28.Ints -/
def ir13 : RC :=
  (.seq
   (.reg 0 none [0, 1] [
     ⟨(some 4), none, (.mv (.k (.v (.bool false))))⟩])
   (.seq
    (.seq
     (.reg 1 none [0, 1, 10] [
       ⟨(some 6), none, (.mv (.t 0))⟩,
       ⟨(some 7), none, (.lenL (.t 6))⟩,
       ⟨(some 8), none, (.mv (.t 1))⟩,
       ⟨(some 9), none, (.lenL (.t 8))⟩,
       ⟨(some 10), none, (.bin .neq false (.t 7) (.t 9))⟩])
     (.cond (.t 10)
      (.seq
       (.reg 2 none [4] [
         ⟨(some 4), none, (.mv (.k (.v (.bool false))))⟩])
       .ret)
      .skip))
    (.seq
     (.seq
      (.reg 3 none [0, 1, 12, 13] [
        ⟨(some 11), none, (.mv (.t 0))⟩,
        ⟨(some 12), none, (.lenL (.t 11))⟩,
        ⟨(some 13), none, (.mv (.k (.v (.int .i64 0))))⟩])
      (.block 0
       (.loop
        (.seq
         (.reg 4 none [0, 1, 12, 13, 14] [
           ⟨(some 14), none, (.bin .lss false (.t 13) (.t 12))⟩])
         (.seq
          (.cond (.t 14)
           .skip
           (.exit 0))
          (.seq
           (.block 1
            (.seq
             (.reg 5 none [0, 1, 5, 12, 13] [
               ⟨(some 15), none, (.mv (.t 13))⟩,
               ⟨(some 5), none, (.mv (.t 15))⟩])
             (.seq
              (.reg 6 (some [0, 0, 3, 7, 0, 0, 48, 112, 255]) [0, 1, 12, 13, 24] [
                ⟨(some 16), none, (.mv (.t 0))⟩,
                ⟨(some 17), none, (.mv (.t 5))⟩,
                ⟨(some 18), none, (.ixL 1 (.t 16) (.t 17))⟩,
                ⟨(some 19), none, (.ld none (.t 18))⟩,
                ⟨(some 20), none, (.mv (.t 1))⟩,
                ⟨(some 21), none, (.mv (.t 5))⟩,
                ⟨(some 22), none, (.ixL 1 (.t 20) (.t 21))⟩,
                ⟨(some 23), none, (.ld none (.t 22))⟩,
                ⟨(some 24), none, (.bin .neq false (.t 19) (.t 23))⟩])
              (.cond (.t 24)
               (.seq
                (.reg 7 none [4] [
                  ⟨(some 4), none, (.mv (.k (.v (.bool false))))⟩])
                .ret)
               .skip))))
           (.reg 8 none [0, 1, 12, 13] [
             ⟨(some 25), none, (.bin .add false (.t 13) (.k (.v (.int .i64 1))))⟩,
             ⟨(some 13), none, (.mv (.t 25))⟩])))))))
     (.seq
      (.reg 9 none [4] [
        ⟨(some 4), none, (.mv (.k (.v (.bool true))))⟩])
      .ret))))
theorem fn13 : FnIR Try.prog 13 26 [(0, [0, 1]), (1, [0, 1, 10]), (2, [4]), (3, [0, 1, 12, 13]), (4, [0, 1, 12, 13, 14]), (5, [0, 1, 5, 12, 13]), (6, [0, 1, 12, 13, 24]), (7, [4]), (8, [0, 1, 12, 13]), (9, [4])] ir13 [(.tmp 4)] :=
  ⟨Try.f13, _, Try.func13, rfl, by kernel_rfl, rfl, by kernel_rfl, by kernel_rfl⟩

/-- dataenclave/dataenclaveref34.Round -/
def ir14 : RC :=
  (.seq
   (.reg 0 none [0, 1, 2, 3] [
     ⟨(some 8), none, (.mv (.k (.v (.slice none 0 0))))⟩,
     ⟨(some 9), none, (.mv (.k (.v (.int .i64 0))))⟩])
   (.seq
    (.seq
     (.reg 1 none [0, 1, 2, 3, 10] [
       ⟨(some 19), none, (.mv (.t 0))⟩,
       ⟨(some 20), none, (.mv (.t 1))⟩,
       ⟨(some 21), none, (.mv (.t 2))⟩,
       ⟨(some 22), none, (.mv (.t 3))⟩,
       ⟨(some 23), none, (.call (.k (.clo 24 [])) [(.t 19), (.t 20), (.t 21), (.t 22)])⟩,
       ⟨(some 10), none, (.mv (.t 23))⟩])
     (.seq
      (.reg 2 none [0, 1, 2, 3, 10, 25] [
        ⟨(some 24), none, (.mv (.t 10))⟩,
        ⟨(some 25), none, (.bin .neq false (.t 24) (.k (.v (.int .i64 0))))⟩])
      (.cond (.t 25)
       (.seq
        (.reg 3 none [8, 9] [
          ⟨(some 26), none, (.mv (.t 10))⟩,
          ⟨(some 8), none, (.mv (.k (.v (.slice none 0 0))))⟩,
          ⟨(some 9), none, (.mv (.t 26))⟩])
        .ret)
       .skip)))
    (.seq
     (.reg 4 none [0, 1, 2, 3, 11] [
       ⟨(some 28), none, (.mv (.t 2))⟩,
       ⟨(some 29), none, (.mv (.t 3))⟩,
       ⟨(some 30), none, (.call (.k (.clo 17 [])) [(.t 28), (.t 29)])⟩,
       ⟨(some 27), none, (.mv (.t 30))⟩,
       ⟨(some 31), none, (.ex (.t 27) 0)⟩,
       ⟨(some 32), none, (.ex (.t 27) 1)⟩,
       ⟨(some 11), none, (.mv (.t 31))⟩,
       ⟨(some 12), none, (.mv (.t 32))⟩])
     (.seq
      (.reg 5 none [0, 1, 2, 3, 11, 13] [
        ⟨(some 33), none, (.mv (.t 2))⟩,
        ⟨(some 34), none, (.lenL (.t 33))⟩,
        ⟨(some 13), none, (.mv (.t 34))⟩])
      (.seq
       (.seq
        (.reg 6 none [0, 1, 2, 3, 11, 13, 14] [
          ⟨(some 14), none, (.mv (.k (.v (.int .i64 0))))⟩])
        (.block 0
         (.loop
          (.seq
           (.seq
            (.reg 7 none [0, 1, 2, 3, 11, 13, 14, 38] [
              ⟨(some 35), none, (.mv (.t 14))⟩,
              ⟨(some 36), none, (.mv (.t 13))⟩,
              ⟨(some 37), none, (.bin .shl false (.k (.v (.int .i64 1))) (.t 36))⟩,
              ⟨(some 38), none, (.bin .lss false (.t 35) (.t 37))⟩])
            (.cond (.t 38)
             .skip
             (.exit 0)))
           (.seq
            (.block 1
             (.seq
              (.reg 9 none [0, 1, 2, 3, 11, 13, 14, 15] [
                ⟨(some 15), none, (.mv (.k (.v (.slice none 0 0))))⟩])
              (.seq
               (.reg 10 none [0, 1, 2, 3, 11, 13, 14, 15, 16] [
                 ⟨(some 16), none, (.mv (.k (.v (.bool true))))⟩])
               (.seq
                (.seq
                 (.reg 11 none [0, 1, 2, 3, 11, 13, 14, 15, 16, 42, 43] [
                   ⟨(some 41), none, (.mv (.t 2))⟩,
                   ⟨(some 42), none, (.lenL (.t 41))⟩,
                   ⟨(some 43), none, (.mv (.k (.v (.int .i64 0))))⟩])
                 (.block 2
                  (.loop
                   (.seq
                    (.reg 12 none [0, 1, 2, 3, 11, 13, 14, 15, 16, 42, 43, 44] [
                      ⟨(some 44), none, (.bin .lss false (.t 43) (.t 42))⟩])
                    (.seq
                     (.cond (.t 44)
                      .skip
                      (.exit 2))
                     (.seq
                      (.block 3
                       (.seq
                        (.reg 13 none [0, 1, 2, 3, 11, 13, 14, 15, 16, 17, 42, 43] [
                          ⟨(some 45), none, (.mv (.t 43))⟩,
                          ⟨(some 17), none, (.mv (.t 45))⟩])
                        (.seq
                         (.reg 14 none [0, 1, 2, 3, 11, 13, 14, 15, 16, 17, 18, 42, 43] [
                           ⟨(some 46), none, (.mv (.t 14))⟩,
                           ⟨(some 47), none, (.mv (.t 13))⟩,
                           ⟨(some 48), none, (.bin .sub false (.t 47) (.k (.v (.int .i64 1))))⟩,
                           ⟨(some 49), none, (.mv (.t 17))⟩,
                           ⟨(some 50), none, (.bin .sub false (.t 48) (.t 49))⟩,
                           ⟨(some 51), none, (.bin .shr false (.t 46) (.t 50))⟩,
                           ⟨(some 52), none, (.bin .and false (.t 51) (.k (.v (.int .i64 1))))⟩,
                           ⟨(some 18), none, (.mv (.t 52))⟩])
                         (.seq
                          (.seq
                           (.reg 15 none [0, 1, 2, 3, 11, 13, 14, 15, 16, 17, 18, 42, 43, 59] [
                             ⟨(some 53), none, (.mv (.t 18))⟩,
                             ⟨(some 54), none, (.mv (.t 11))⟩,
                             ⟨(some 55), none, (.mv (.t 17))⟩,
                             ⟨(some 56), none, (.ixL 1 (.t 54) (.t 55))⟩,
                             ⟨(some 57), none, (.ld none (.t 56))⟩,
                             ⟨(some 58), none, (.lenL (.t 57))⟩,
                             ⟨(some 59), none, (.bin .geq false (.t 53) (.t 58))⟩])
                           (.cond (.t 59)
                            (.seq
                             (.reg 16 none [0, 1, 2, 3, 11, 13, 14, 15, 16] [
                               ⟨(some 16), none, (.mv (.k (.v (.bool false))))⟩])
                             (.exit 2))
                            .skip))
                          (.reg 17 none [0, 1, 2, 3, 11, 13, 14, 15, 16, 42, 43] [
                            ⟨(some 60), none, (.mv (.t 15))⟩,
                            ⟨(some 61), none, (.mv (.t 11))⟩,
                            ⟨(some 62), none, (.mv (.t 17))⟩,
                            ⟨(some 63), none, (.ixL 1 (.t 61) (.t 62))⟩,
                            ⟨(some 64), none, (.ld none (.t 63))⟩,
                            ⟨(some 65), none, (.mv (.t 18))⟩,
                            ⟨(some 66), none, (.ixL 1 (.t 64) (.t 65))⟩,
                            ⟨(some 67), none, (.ld none (.t 66))⟩,
                            ⟨(some 68), none, (.bsl 1 1 [(.t 67)])⟩,
                            ⟨(some 69), none, (.app 1 8 false (.t 60) (.t 68))⟩,
                            ⟨(some 15), none, (.mv (.t 69))⟩])))))
                      (.reg 18 none [0, 1, 2, 3, 11, 13, 14, 15, 16, 42, 43] [
                        ⟨(some 70), none, (.bin .add false (.t 43) (.k (.v (.int .i64 1))))⟩,
                        ⟨(some 43), none, (.mv (.t 70))⟩])))))))
                (.seq
                 (.reg 19 none [0, 1, 2, 3, 11, 13, 14, 15, 79] [
                   ⟨(some 71), none, (.mv (.t 16))⟩,
                   ⟨(some 72), none, (.mv (.t 71))⟩,
                   ⟨(some 73), (some (72, true)), (.mv (.t 0))⟩,
                   ⟨(some 74), (some (72, true)), (.mv (.t 1))⟩,
                   ⟨(some 75), (some (72, true)), (.mv (.t 2))⟩,
                   ⟨(some 76), (some (72, true)), (.mv (.t 15))⟩,
                   ⟨(some 77), (some (72, true)), (.mv (.t 3))⟩,
                   ⟨(some 78), (some (72, true)), (.call (.k (.clo 25 [])) [(.t 73), (.t 74), (.t 75), (.t 76), (.t 77)])⟩,
                   ⟨(some 79), none, (.pick (.t 72) (.t 78) (.k (.v (.bool false))))⟩])
                 (.cond (.t 79)
                  (.seq
                   (.reg 20 none [8, 9] [
                     ⟨(some 80), none, (.mv (.t 15))⟩,
                     ⟨(some 8), none, (.mv (.t 80))⟩,
                     ⟨(some 9), none, (.mv (.k (.v (.int .i64 0))))⟩])
                   .ret)
                  .skip))))))
            (.reg 8 none [0, 1, 2, 3, 11, 13, 14] [
              ⟨(some 39), none, (.mv (.t 14))⟩,
              ⟨(some 40), none, (.bin .add false (.t 39) (.k (.v (.int .i64 1))))⟩,
              ⟨(some 14), none, (.mv (.t 40))⟩]))))))
       (.seq
        (.reg 21 none [8, 9] [
          ⟨(some 8), none, (.mv (.k (.v (.slice none 0 0))))⟩,
          ⟨(some 9), none, (.mv (.k (.v (.int .i64 21))))⟩])
        .ret))))))
theorem fn14 : FnIR Try.prog 14 81 [(0, [0, 1, 2, 3]), (1, [0, 1, 2, 3, 10]), (2, [0, 1, 2, 3, 10, 25]), (3, [8, 9]), (4, [0, 1, 2, 3, 11]), (5, [0, 1, 2, 3, 11, 13]), (6, [0, 1, 2, 3, 11, 13, 14]), (7, [0, 1, 2, 3, 11, 13, 14, 38]), (8, [0, 1, 2, 3, 11, 13, 14]), (9, [0, 1, 2, 3, 11, 13, 14, 15]), (10, [0, 1, 2, 3, 11, 13, 14, 15, 16]), (11, [0, 1, 2, 3, 11, 13, 14, 15, 16, 42, 43]), (12, [0, 1, 2, 3, 11, 13, 14, 15, 16, 42, 43, 44]), (13, [0, 1, 2, 3, 11, 13, 14, 15, 16, 17, 42, 43]), (14, [0, 1, 2, 3, 11, 13, 14, 15, 16, 17, 18, 42, 43]), (15, [0, 1, 2, 3, 11, 13, 14, 15, 16, 17, 18, 42, 43, 59]), (16, [0, 1, 2, 3, 11, 13, 14, 15, 16]), (17, [0, 1, 2, 3, 11, 13, 14, 15, 16, 42, 43]), (18, [0, 1, 2, 3, 11, 13, 14, 15, 16, 42, 43]), (19, [0, 1, 2, 3, 11, 13, 14, 15, 79]), (20, [8, 9]), (21, [8, 9])] ir14 [(.tmp 8), (.tmp 9)] :=
  ⟨Try.f14, _, Try.func14, rfl, by kernel_rfl, rfl, by kernel_rfl, by kernel_rfl⟩

/-- dataenclave/dataenclaveref34.Check -/
def ir15 : RC :=
  (.seq
   (.reg 0 none [0, 1, 2, 3, 4] [
     ⟨(some 10), none, (.mv (.k (.v (.bool false))))⟩,
     ⟨(some 11), none, (.mv (.k (.v (.int .i64 0))))⟩])
   (.seq
    (.seq
     (.reg 1 none [0, 1, 2, 3, 4, 34] [
       ⟨(some 15), none, (.mv (.t 0))⟩,
       ⟨(some 16), none, (.bin .lss false (.t 15) (.k (.v (.int .i64 1))))⟩,
       ⟨(some 17), none, (.mv (.t 16))⟩,
       ⟨(some 18), (some (17, false)), (.mv (.t 1))⟩,
       ⟨(some 19), (some (17, false)), (.bin .lss false (.t 18) (.k (.v (.int .i64 1))))⟩,
       ⟨(some 20), none, (.pick (.t 17) (.k (.v (.bool true))) (.t 19))⟩,
       ⟨(some 21), none, (.mv (.t 20))⟩,
       ⟨(some 22), (some (21, false)), (.mv (.t 0))⟩,
       ⟨(some 23), (some (21, false)), (.bin .gtr false (.t 22) (.k (.v (.int .i64 12))))⟩,
       ⟨(some 24), none, (.pick (.t 21) (.k (.v (.bool true))) (.t 23))⟩,
       ⟨(some 25), none, (.mv (.t 24))⟩,
       ⟨(some 26), (some (25, false)), (.mv (.t 1))⟩,
       ⟨(some 27), (some (25, false)), (.bin .gtr false (.t 26) (.k (.v (.int .i64 12))))⟩,
       ⟨(some 28), none, (.pick (.t 25) (.k (.v (.bool true))) (.t 27))⟩,
       ⟨(some 29), none, (.mv (.t 28))⟩,
       ⟨(some 30), (some (29, false)), (.mv (.t 0))⟩,
       ⟨(some 31), (some (29, false)), (.mv (.t 1))⟩,
       ⟨(some 32), (some (29, false)), (.bin .mul false (.t 30) (.t 31))⟩,
       ⟨(some 33), (some (29, false)), (.bin .gtr false (.t 32) (.k (.v (.int .i64 12))))⟩,
       ⟨(some 34), none, (.pick (.t 29) (.k (.v (.bool true))) (.t 33))⟩])
     (.cond (.t 34)
      (.seq
       (.reg 2 none [10, 11] [
         ⟨(some 10), none, (.mv (.k (.v (.bool false))))⟩,
         ⟨(some 11), none, (.mv (.k (.v (.int .i64 55))))⟩])
       .ret)
      .skip))
    (.seq
     (.seq
      (.reg 3 none [0, 1, 2, 3, 4, 48] [
        ⟨(some 35), none, (.mv (.t 2))⟩,
        ⟨(some 36), none, (.lenL (.t 35))⟩,
        ⟨(some 37), none, (.mv (.t 0))⟩,
        ⟨(some 38), none, (.mv (.t 1))⟩,
        ⟨(some 39), none, (.bin .mul false (.t 37) (.t 38))⟩,
        ⟨(some 40), none, (.bin .neq false (.t 36) (.t 39))⟩,
        ⟨(some 41), none, (.mv (.t 40))⟩,
        ⟨(some 42), (some (41, false)), (.mv (.t 3))⟩,
        ⟨(some 43), (some (41, false)), (.lenL (.t 42))⟩,
        ⟨(some 44), (some (41, false)), (.mv (.t 0))⟩,
        ⟨(some 45), (some (41, false)), (.mv (.t 1))⟩,
        ⟨(some 46), (some (41, false)), (.bin .mul false (.t 44) (.t 45))⟩,
        ⟨(some 47), (some (41, false)), (.bin .neq false (.t 43) (.t 46))⟩,
        ⟨(some 48), none, (.pick (.t 41) (.k (.v (.bool true))) (.t 47))⟩])
      (.cond (.t 48)
       (.seq
        (.reg 4 none [10, 11] [
          ⟨(some 10), none, (.mv (.k (.v (.bool false))))⟩,
          ⟨(some 11), none, (.mv (.k (.v (.int .i64 17))))⟩])
        .ret)
       .skip))
     (.seq
      (.seq
       (.reg 5 none [0, 1, 2, 3, 4, 12] [
         ⟨(some 49), none, (.mv (.t 2))⟩,
         ⟨(some 50), none, (.mv (.t 4))⟩,
         ⟨(some 51), none, (.call (.k (.clo 26 [])) [(.t 49), (.t 50)])⟩,
         ⟨(some 12), none, (.mv (.t 51))⟩])
       (.seq
        (.reg 6 none [0, 1, 2, 3, 4, 12, 53] [
          ⟨(some 52), none, (.mv (.t 12))⟩,
          ⟨(some 53), none, (.bin .neq false (.t 52) (.k (.v (.int .i64 0))))⟩])
        (.cond (.t 53)
         (.seq
          (.reg 7 none [10, 11] [
            ⟨(some 54), none, (.mv (.t 12))⟩,
            ⟨(some 10), none, (.mv (.k (.v (.bool false))))⟩,
            ⟨(some 11), none, (.mv (.t 54))⟩])
          .ret)
         .skip)))
      (.seq
       (.seq
        (.reg 8 none [0, 1, 2, 3, 4, 55, 56, 57] [
          ⟨(some 55), none, (.mv (.t 3))⟩,
          ⟨(some 56), none, (.lenL (.t 55))⟩,
          ⟨(some 57), none, (.mv (.k (.v (.int .i64 0))))⟩])
        (.block 0
         (.loop
          (.seq
           (.reg 9 none [0, 1, 2, 3, 4, 55, 56, 57, 58] [
             ⟨(some 58), none, (.bin .lss false (.t 57) (.t 56))⟩])
           (.seq
            (.cond (.t 58)
             .skip
             (.exit 0))
            (.seq
             (.block 1
              (.seq
               (.reg 10 none [0, 1, 2, 3, 4, 13, 14, 55, 56, 57] [
                 ⟨(some 59), none, (.mv (.t 57))⟩,
                 ⟨(some 60), none, (.ixL 1 (.t 55) (.t 57))⟩,
                 ⟨(some 61), none, (.ld none (.t 60))⟩,
                 ⟨(some 13), none, (.mv (.t 59))⟩,
                 ⟨(some 14), none, (.mv (.t 61))⟩])
               (.seq
                (.reg 11 none [0, 1, 2, 3, 4, 55, 56, 57, 69] [
                  ⟨(some 62), none, (.mv (.t 2))⟩,
                  ⟨(some 63), none, (.mv (.t 13))⟩,
                  ⟨(some 64), none, (.ixL 1 (.t 62) (.t 63))⟩,
                  ⟨(some 65), none, (.ld none (.t 64))⟩,
                  ⟨(some 66), none, (.mv (.t 14))⟩,
                  ⟨(some 67), none, (.mv (.t 4))⟩,
                  ⟨(some 68), none, (.call (.k (.clo 27 [])) [(.t 65), (.t 66), (.t 67)])⟩,
                  ⟨(some 69), none, (.un .not (.t 68))⟩])
                (.cond (.t 69)
                 (.seq
                  (.reg 12 none [10, 11] [
                    ⟨(some 10), none, (.mv (.k (.v (.bool false))))⟩,
                    ⟨(some 11), none, (.mv (.k (.v (.int .i64 0))))⟩])
                  .ret)
                 .skip))))
             (.reg 13 none [0, 1, 2, 3, 4, 55, 56, 57] [
               ⟨(some 70), none, (.bin .add false (.t 57) (.k (.v (.int .i64 1))))⟩,
               ⟨(some 57), none, (.mv (.t 70))⟩])))))))
       (.seq
        (.reg 14 none [10, 11] [
          ⟨(some 71), none, (.mv (.t 0))⟩,
          ⟨(some 72), none, (.mv (.t 1))⟩,
          ⟨(some 73), none, (.mv (.t 2))⟩,
          ⟨(some 74), none, (.mv (.t 3))⟩,
          ⟨(some 75), none, (.mv (.t 4))⟩,
          ⟨(some 76), none, (.call (.k (.clo 25 [])) [(.t 71), (.t 72), (.t 73), (.t 74), (.t 75)])⟩,
          ⟨(some 10), none, (.mv (.t 76))⟩,
          ⟨(some 11), none, (.mv (.k (.v (.int .i64 0))))⟩])
        .ret))))))
theorem fn15 : FnIR Try.prog 15 77 [(0, [0, 1, 2, 3, 4]), (1, [0, 1, 2, 3, 4, 34]), (2, [10, 11]), (3, [0, 1, 2, 3, 4, 48]), (4, [10, 11]), (5, [0, 1, 2, 3, 4, 12]), (6, [0, 1, 2, 3, 4, 12, 53]), (7, [10, 11]), (8, [0, 1, 2, 3, 4, 55, 56, 57]), (9, [0, 1, 2, 3, 4, 55, 56, 57, 58]), (10, [0, 1, 2, 3, 4, 13, 14, 55, 56, 57]), (11, [0, 1, 2, 3, 4, 55, 56, 57, 69]), (12, [10, 11]), (13, [0, 1, 2, 3, 4, 55, 56, 57]), (14, [10, 11])] ir15 [(.tmp 10), (.tmp 11)] :=
  ⟨Try.f15, _, Try.func15, rfl, by kernel_rfl, rfl, by kernel_rfl, by kernel_rfl⟩

/-- dataenclave/rounding.Values -/
def ir16 : RC :=
  (.seq
   (.reg 0 none [0, 1] [
     ⟨(some 4), none, (.mv (.k (.v (.slice none 0 0))))⟩,
     ⟨(some 5), none, (.mv (.k (.v (.int .i64 0))))⟩])
   (.seq
    (.seq
     (.reg 1 none [0, 1, 11] [
       ⟨(some 9), none, (.mv (.t 0))⟩,
       ⟨(some 10), none, (.lenL (.t 9))⟩,
       ⟨(some 11), none, (.bin .gtr false (.t 10) (.k (.v (.int .i64 12))))⟩])
     (.cond (.t 11)
      (.seq
       (.reg 2 none [4, 5] [
         ⟨(some 4), none, (.mv (.k (.v (.slice none 0 0))))⟩,
         ⟨(some 5), none, (.mv (.k (.v (.int .i64 17))))⟩])
       .ret)
      .skip))
    (.seq
     (.seq
      (.reg 3 none [0, 1, 15] [
        ⟨(some 12), none, (.mv (.t 0))⟩,
        ⟨(some 13), none, (.mv (.t 1))⟩,
        ⟨(some 14), none, (.call (.k (.clo 28 [])) [(.t 12), (.t 13)])⟩,
        ⟨(some 15), none, (.un .not (.t 14))⟩])
      (.cond (.t 15)
       (.seq
        (.reg 4 none [4, 5] [
          ⟨(some 4), none, (.mv (.k (.v (.slice none 0 0))))⟩,
          ⟨(some 5), none, (.mv (.k (.v (.int .i64 2))))⟩])
        .ret)
       .skip))
     (.seq
      (.reg 5 none [0, 1, 6] [
        ⟨(some 6), none, (.mv (.k (.v (.slice none 0 0))))⟩])
      (.seq
       (.seq
        (.reg 6 none [1, 6, 16, 17, 18] [
          ⟨(some 16), none, (.mv (.t 0))⟩,
          ⟨(some 17), none, (.lenL (.t 16))⟩,
          ⟨(some 18), none, (.mv (.k (.v (.int .i64 0))))⟩])
        (.block 0
         (.loop
          (.seq
           (.reg 7 none [1, 6, 16, 17, 18, 19] [
             ⟨(some 19), none, (.bin .lss false (.t 18) (.t 17))⟩])
           (.seq
            (.cond (.t 19)
             .skip
             (.exit 0))
            (.seq
             (.block 1
              (.seq
               (.reg 8 none [1, 6, 8, 16, 17, 18] [
                 ⟨(some 20), none, (.ixL 1 (.t 16) (.t 18))⟩,
                 ⟨(some 21), none, (.ld none (.t 20))⟩,
                 ⟨(some 8), none, (.mv (.t 21))⟩])
               (.reg 9 none [1, 6, 16, 17, 18] [
                 ⟨(some 22), none, (.mv (.t 6))⟩,
                 ⟨(some 23), none, (.mv (.t 8))⟩,
                 ⟨(some 24), none, (.mv (.t 1))⟩,
                 ⟨(some 25), none, (.call (.k (.clo 29 [])) [(.t 23), (.t 24)])⟩,
                 ⟨(some 26), none, (.bsl 1 1 [(.t 25)])⟩,
                 ⟨(some 27), none, (.app 1 24 false (.t 22) (.t 26))⟩,
                 ⟨(some 6), none, (.mv (.t 27))⟩])))
             (.reg 10 none [1, 6, 16, 17, 18] [
               ⟨(some 28), none, (.bin .add false (.t 18) (.k (.v (.int .i64 1))))⟩,
               ⟨(some 18), none, (.mv (.t 28))⟩])))))))
       (.seq
        (.reg 11 none [4, 5] [
          ⟨(some 29), none, (.mv (.t 6))⟩,
          ⟨(some 4), none, (.mv (.t 29))⟩,
          ⟨(some 5), none, (.mv (.k (.v (.int .i64 0))))⟩])
        .ret))))))
theorem fn16 : FnIR Try.prog 16 30 [(0, [0, 1]), (1, [0, 1, 11]), (2, [4, 5]), (3, [0, 1, 15]), (4, [4, 5]), (5, [0, 1, 6]), (6, [1, 6, 16, 17, 18]), (7, [1, 6, 16, 17, 18, 19]), (8, [1, 6, 8, 16, 17, 18]), (9, [1, 6, 16, 17, 18]), (10, [1, 6, 16, 17, 18]), (11, [4, 5])] ir16 [(.tmp 4), (.tmp 5)] :=
  ⟨Try.f16, _, Try.func16, rfl, by kernel_rfl, rfl, by kernel_rfl, by kernel_rfl⟩

/-- dataenclave/dataenclaveref34.Values -/
def ir17 : RC :=
  (.seq
   (.reg 0 none [0, 1] [
     ⟨(some 4), none, (.mv (.k (.v (.slice none 0 0))))⟩,
     ⟨(some 5), none, (.mv (.k (.v (.int .i64 0))))⟩])
   (.seq
    (.seq
     (.reg 1 none [0, 1, 13] [
       ⟨(some 11), none, (.mv (.t 0))⟩,
       ⟨(some 12), none, (.lenL (.t 11))⟩,
       ⟨(some 13), none, (.bin .gtr false (.t 12) (.k (.v (.int .i64 12))))⟩])
     (.cond (.t 13)
      (.seq
       (.reg 2 none [4, 5] [
         ⟨(some 4), none, (.mv (.k (.v (.slice none 0 0))))⟩,
         ⟨(some 5), none, (.mv (.k (.v (.int .i64 17))))⟩])
       .ret)
      .skip))
    (.seq
     (.seq
      (.reg 3 none [0, 1, 6] [
        ⟨(some 14), none, (.mv (.t 0))⟩,
        ⟨(some 15), none, (.mv (.t 1))⟩,
        ⟨(some 16), none, (.call (.k (.clo 26 [])) [(.t 14), (.t 15)])⟩,
        ⟨(some 6), none, (.mv (.t 16))⟩])
      (.seq
       (.reg 4 none [0, 1, 6, 18] [
         ⟨(some 17), none, (.mv (.t 6))⟩,
         ⟨(some 18), none, (.bin .neq false (.t 17) (.k (.v (.int .i64 0))))⟩])
       (.cond (.t 18)
        (.seq
         (.reg 5 none [4, 5] [
           ⟨(some 19), none, (.mv (.t 6))⟩,
           ⟨(some 4), none, (.mv (.k (.v (.slice none 0 0))))⟩,
           ⟨(some 5), none, (.mv (.t 19))⟩])
         .ret)
        .skip)))
     (.seq
      (.reg 6 none [0, 1, 7] [
        ⟨(some 7), none, (.mv (.k (.v (.slice none 0 0))))⟩])
      (.seq
       (.seq
        (.reg 7 none [1, 7, 20, 21, 22] [
          ⟨(some 20), none, (.mv (.t 0))⟩,
          ⟨(some 21), none, (.lenL (.t 20))⟩,
          ⟨(some 22), none, (.mv (.k (.v (.int .i64 0))))⟩])
        (.block 0
         (.loop
          (.seq
           (.reg 8 none [1, 7, 20, 21, 22, 23] [
             ⟨(some 23), none, (.bin .lss false (.t 22) (.t 21))⟩])
           (.seq
            (.cond (.t 23)
             .skip
             (.exit 0))
            (.seq
             (.block 1
              (.seq
               (.reg 9 none [1, 7, 9, 20, 21, 22] [
                 ⟨(some 24), none, (.ixL 1 (.t 20) (.t 22))⟩,
                 ⟨(some 25), none, (.ld none (.t 24))⟩,
                 ⟨(some 9), none, (.mv (.t 25))⟩])
               (.seq
                (.reg 10 none [1, 7, 9, 10, 20, 21, 22] [
                  ⟨(some 26), none, (.mv (.t 9))⟩,
                  ⟨(some 27), none, (.mv (.t 1))⟩,
                  ⟨(some 28), none, (.bin .quo false (.t 26) (.t 27))⟩,
                  ⟨(some 29), none, (.mv (.t 1))⟩,
                  ⟨(some 30), none, (.bin .mul false (.t 28) (.t 29))⟩,
                  ⟨(some 10), none, (.mv (.t 30))⟩])
                (.seq
                 (.reg 11 none [1, 7, 9, 10, 20, 21, 22, 33] [
                   ⟨(some 31), none, (.mv (.t 10))⟩,
                   ⟨(some 32), none, (.mv (.t 9))⟩,
                   ⟨(some 33), none, (.bin .eql false (.t 31) (.t 32))⟩])
                 (.cond (.t 33)
                  (.reg 12 none [1, 7, 20, 21, 22] [
                    ⟨(some 34), none, (.mv (.t 7))⟩,
                    ⟨(some 35), none, (.mv (.t 9))⟩,
                    ⟨(some 36), none, (.bsl 1 1 [(.t 35)])⟩,
                    ⟨(some 37), none, (.bsl 1 1 [(.t 36)])⟩,
                    ⟨(some 38), none, (.app 1 24 false (.t 34) (.t 37))⟩,
                    ⟨(some 7), none, (.mv (.t 38))⟩])
                  (.reg 13 none [1, 7, 20, 21, 22] [
                    ⟨(some 39), none, (.mv (.t 7))⟩,
                    ⟨(some 40), none, (.mv (.t 10))⟩,
                    ⟨(some 41), none, (.mv (.t 10))⟩,
                    ⟨(some 42), none, (.mv (.t 1))⟩,
                    ⟨(some 43), none, (.bin .add false (.t 41) (.t 42))⟩,
                    ⟨(some 44), none, (.bsl 1 2 [(.t 40), (.t 43)])⟩,
                    ⟨(some 45), none, (.bsl 1 1 [(.t 44)])⟩,
                    ⟨(some 46), none, (.app 1 24 false (.t 39) (.t 45))⟩,
                    ⟨(some 7), none, (.mv (.t 46))⟩]))))))
             (.reg 14 none [1, 7, 20, 21, 22] [
               ⟨(some 47), none, (.bin .add false (.t 22) (.k (.v (.int .i64 1))))⟩,
               ⟨(some 22), none, (.mv (.t 47))⟩])))))))
       (.seq
        (.reg 15 none [4, 5] [
          ⟨(some 48), none, (.mv (.t 7))⟩,
          ⟨(some 4), none, (.mv (.t 48))⟩,
          ⟨(some 5), none, (.mv (.k (.v (.int .i64 0))))⟩])
        .ret))))))
theorem fn17 : FnIR Try.prog 17 49 [(0, [0, 1]), (1, [0, 1, 13]), (2, [4, 5]), (3, [0, 1, 6]), (4, [0, 1, 6, 18]), (5, [4, 5]), (6, [0, 1, 7]), (7, [1, 7, 20, 21, 22]), (8, [1, 7, 20, 21, 22, 23]), (9, [1, 7, 9, 20, 21, 22]), (10, [1, 7, 9, 10, 20, 21, 22]), (11, [1, 7, 9, 10, 20, 21, 22, 33]), (12, [1, 7, 20, 21, 22]), (13, [1, 7, 20, 21, 22]), (14, [1, 7, 20, 21, 22]), (15, [4, 5])] ir17 [(.tmp 4), (.tmp 5)] :=
  ⟨Try.f17, _, Try.func17, rfl, by kernel_rfl, rfl, by kernel_rfl, by kernel_rfl⟩

/-- (*dataenclave/dataenclavedraw.Codes).Range -/
def ir18 : RC :=
  (.seq
   (.reg 0 none [0, 1, 2] [
     ⟨(some 6), none, (.mv (.k (.v (.int .i64 0))))⟩])
   (.seq
    (.reg 1 none [6] [
      ⟨(some 7), none, (.mv (.t 1))⟩,
      ⟨(some 8), none, (.mv (.t 0))⟩,
      ⟨(some 9), none, (.mv (.t 2))⟩,
      ⟨(some 10), none, (.mv (.t 1))⟩,
      ⟨(some 11), none, (.bin .sub false (.t 9) (.t 10))⟩,
      ⟨(some 12), none, (.bin .add false (.t 11) (.k (.v (.int .i64 1))))⟩,
      ⟨(some 13), none, (.call (.k (.clo 19 [])) [(.t 8), (.t 12)])⟩,
      ⟨(some 14), none, (.bin .add false (.t 7) (.t 13))⟩,
      ⟨(some 6), none, (.mv (.t 14))⟩])
    .ret))
theorem fn18 : FnIR Try.prog 18 15 [(0, [0, 1, 2]), (1, [6])] ir18 [(.tmp 6)] :=
  ⟨Try.f18, _, Try.func18, rfl, by kernel_rfl, rfl, by kernel_rfl, by kernel_rfl⟩

/-- (*dataenclave/dataenclavedraw.Codes).Next -/
def ir19 : RC :=
  (.seq
   (.reg 0 none [0, 1] [
     ⟨(some 4), none, (.mv (.k (.v (.int .i64 0))))⟩])
   (.seq
    (.seq
     (.reg 1 (some [0, 1, 3, 7, 15, 31, 63, 7, 135, 391, 903, 1927, 4095, 8191]) [0, 1, 19] [
       ⟨(some 6), none, (.mv (.t 1))⟩,
       ⟨(some 7), none, (.bin .lss false (.t 6) (.k (.v (.int .i64 1))))⟩,
       ⟨(some 8), none, (.mv (.t 7))⟩,
       ⟨(some 9), (some (8, false)), (.mv (.t 0))⟩,
       ⟨(some 10), (some (8, false)), (.nc (.t 9))⟩,
       ⟨(some 11), (some (8, false)), (.fa 1 (.t 10))⟩,
       ⟨(some 12), (some (8, false)), (.ld none (.t 11))⟩,
       ⟨(some 13), (some (8, false)), (.mv (.t 0))⟩,
       ⟨(some 14), (some (8, false)), (.nc (.t 13))⟩,
       ⟨(some 15), (some (8, false)), (.fa 0 (.t 14))⟩,
       ⟨(some 16), (some (8, false)), (.ld none (.t 15))⟩,
       ⟨(some 17), (some (8, false)), (.lenL (.t 16))⟩,
       ⟨(some 18), (some (8, false)), (.bin .geq false (.t 12) (.t 17))⟩,
       ⟨(some 19), none, (.pick (.t 8) (.k (.v (.bool true))) (.t 18))⟩])
     (.cond (.t 19)
      (.seq
       (.reg 2 none [4] [
         ⟨(some 4), none, (.mv (.k (.v (.int .i64 0))))⟩])
       .ret)
      .skip))
    (.seq
     (.reg 3 none [0, 1] [
       ⟨(some 20), none, (.mv (.t 0))⟩,
       ⟨(some 21), none, (.nc (.t 20))⟩,
       ⟨(some 22), none, (.fa 1 (.t 21))⟩,
       ⟨(some 23), none, (.ld none (.t 22))⟩,
       ⟨(some 24), none, (.bin .add false (.t 23) (.k (.v (.int .i64 1))))⟩,
       ⟨(some 25), none, (.nc (.t 20))⟩,
       ⟨(some 26), none, (.fa 1 (.t 25))⟩,
       ⟨none, none, (.st 1 (.t 26) (.t 24))⟩])
     (.seq
      (.reg 4 (some [0, 1, 3, 7, 0, 16, 48, 112, 240, 511, 1023, 2047, 4095]) [0, 1, 5] [
        ⟨(some 27), none, (.mv (.t 0))⟩,
        ⟨(some 28), none, (.nc (.t 27))⟩,
        ⟨(some 29), none, (.fa 0 (.t 28))⟩,
        ⟨(some 30), none, (.ld none (.t 29))⟩,
        ⟨(some 31), none, (.mv (.t 0))⟩,
        ⟨(some 32), none, (.nc (.t 31))⟩,
        ⟨(some 33), none, (.fa 1 (.t 32))⟩,
        ⟨(some 34), none, (.ld none (.t 33))⟩,
        ⟨(some 35), none, (.bin .sub false (.t 34) (.k (.v (.int .i64 1))))⟩,
        ⟨(some 36), none, (.ixL 1 (.t 30) (.t 35))⟩,
        ⟨(some 37), none, (.ld none (.t 36))⟩,
        ⟨(some 38), none, (.cvI .i64 (.t 37))⟩,
        ⟨(some 5), none, (.mv (.t 38))⟩])
      (.seq
       (.seq
        (.reg 5 (some [0, 1, 3, 7, 15, 31, 63, 7, 135, 391, 903, 1927, 4095, 8191]) [0, 1, 5, 52] [
          ⟨(some 39), none, (.mv (.t 1))⟩,
          ⟨(some 40), none, (.bin .gtr false (.t 39) (.k (.v (.int .i64 256))))⟩,
          ⟨(some 41), none, (.mv (.t 40))⟩,
          ⟨(some 42), (some (41, true)), (.mv (.t 0))⟩,
          ⟨(some 43), (some (41, true)), (.nc (.t 42))⟩,
          ⟨(some 44), (some (41, true)), (.fa 1 (.t 43))⟩,
          ⟨(some 45), (some (41, true)), (.ld none (.t 44))⟩,
          ⟨(some 46), (some (41, true)), (.mv (.t 0))⟩,
          ⟨(some 47), (some (41, true)), (.nc (.t 46))⟩,
          ⟨(some 48), (some (41, true)), (.fa 0 (.t 47))⟩,
          ⟨(some 49), (some (41, true)), (.ld none (.t 48))⟩,
          ⟨(some 50), (some (41, true)), (.lenL (.t 49))⟩,
          ⟨(some 51), (some (41, true)), (.bin .lss false (.t 45) (.t 50))⟩,
          ⟨(some 52), none, (.pick (.t 41) (.t 51) (.k (.v (.bool false))))⟩])
        (.cond (.t 52)
         (.seq
          (.reg 6 (some [0, 1, 0, 4, 12, 28, 0, 64, 192, 448, 1020, 2044, 4092, 8191, 16383]) [0, 1, 5] [
            ⟨(some 53), none, (.mv (.t 5))⟩,
            ⟨(some 54), none, (.bin .mul false (.t 53) (.k (.v (.int .i64 256))))⟩,
            ⟨(some 55), none, (.mv (.t 0))⟩,
            ⟨(some 56), none, (.nc (.t 55))⟩,
            ⟨(some 57), none, (.fa 0 (.t 56))⟩,
            ⟨(some 58), none, (.ld none (.t 57))⟩,
            ⟨(some 59), none, (.mv (.t 0))⟩,
            ⟨(some 60), none, (.nc (.t 59))⟩,
            ⟨(some 61), none, (.fa 1 (.t 60))⟩,
            ⟨(some 62), none, (.ld none (.t 61))⟩,
            ⟨(some 63), none, (.ixL 1 (.t 58) (.t 62))⟩,
            ⟨(some 64), none, (.ld none (.t 63))⟩,
            ⟨(some 65), none, (.cvI .i64 (.t 64))⟩,
            ⟨(some 66), none, (.bin .add false (.t 54) (.t 65))⟩,
            ⟨(some 5), none, (.mv (.t 66))⟩])
          (.reg 7 none [1, 5] [
            ⟨(some 67), none, (.mv (.t 0))⟩,
            ⟨(some 68), none, (.nc (.t 67))⟩,
            ⟨(some 69), none, (.fa 1 (.t 68))⟩,
            ⟨(some 70), none, (.ld none (.t 69))⟩,
            ⟨(some 71), none, (.bin .add false (.t 70) (.k (.v (.int .i64 1))))⟩,
            ⟨(some 72), none, (.nc (.t 67))⟩,
            ⟨(some 73), none, (.fa 1 (.t 72))⟩,
            ⟨none, none, (.st 1 (.t 73) (.t 71))⟩]))
         .skip))
       (.seq
        (.reg 8 none [4] [
          ⟨(some 74), none, (.mv (.t 5))⟩,
          ⟨(some 75), none, (.mv (.t 1))⟩,
          ⟨(some 76), none, (.bin .rem false (.t 74) (.t 75))⟩,
          ⟨(some 4), none, (.mv (.t 76))⟩])
        .ret))))))
theorem fn19 : FnIR Try.prog 19 77 [(0, [0, 1]), (1, [0, 1, 19]), (2, [4]), (3, [0, 1]), (4, [0, 1, 5]), (5, [0, 1, 5, 52]), (6, [0, 1, 5]), (7, [1, 5]), (8, [4])] ir19 [(.tmp 4)] :=
  ⟨Try.f19, _, Try.func19, rfl, by kernel_rfl, rfl, by kernel_rfl, by kernel_rfl⟩

/-- dataenclave/rounding.check -/
def ir20 : RC :=
  (.seq
   (.reg 0 none [0, 1, 2, 3] [
     ⟨(some 8), none, (.mv (.k (.v (.int .i64 0))))⟩])
   (.seq
    (.block 0
     (.seq
      (.reg 1 none [0, 1, 2, 3, 9] [
        ⟨(some 10), none, (.mv (.t 0))⟩,
        ⟨(some 11), none, (.bin .lss false (.t 10) (.k (.v (.int .i64 1))))⟩,
        ⟨(some 12), none, (.mv (.t 11))⟩,
        ⟨(some 13), (some (12, false)), (.mv (.t 1))⟩,
        ⟨(some 14), (some (12, false)), (.bin .lss false (.t 13) (.k (.v (.int .i64 1))))⟩,
        ⟨(some 15), none, (.pick (.t 12) (.k (.v (.bool true))) (.t 14))⟩,
        ⟨(some 16), none, (.mv (.t 15))⟩,
        ⟨(some 17), (some (16, false)), (.mv (.t 0))⟩,
        ⟨(some 18), (some (16, false)), (.mv (.t 1))⟩,
        ⟨(some 19), (some (16, false)), (.mn [(.t 18), (.k (.v (.int .i64 13)))])⟩,
        ⟨(some 20), (some (16, false)), (.bin .quo false (.k (.v (.int .i64 12))) (.t 19))⟩,
        ⟨(some 21), (some (16, false)), (.bin .gtr false (.t 17) (.t 20))⟩,
        ⟨(some 22), none, (.pick (.t 16) (.k (.v (.bool true))) (.t 21))⟩,
        ⟨(some 9), none, (.mv (.t 22))⟩])
      (.cond (.t 9)
       (.seq
        (.reg 2 none [8] [
          ⟨(some 8), none, (.mv (.k (.v (.int .i64 55))))⟩])
        .ret)
       (.seq
        (.reg 3 none [2, 3, 23] [
          ⟨(some 24), none, (.mv (.t 2))⟩,
          ⟨(some 25), none, (.lenL (.t 24))⟩,
          ⟨(some 26), none, (.mv (.t 0))⟩,
          ⟨(some 27), none, (.mv (.t 1))⟩,
          ⟨(some 28), none, (.bin .mul false (.t 26) (.t 27))⟩,
          ⟨(some 29), none, (.bin .neq false (.t 25) (.t 28))⟩,
          ⟨(some 23), none, (.mv (.t 29))⟩])
        (.cond (.t 23)
         (.seq
          (.reg 4 none [8] [
            ⟨(some 8), none, (.mv (.k (.v (.int .i64 17))))⟩])
          .ret)
         (.seq
          (.reg 5 none [30] [
            ⟨(some 31), none, (.mv (.t 2))⟩,
            ⟨(some 32), none, (.mv (.t 3))⟩,
            ⟨(some 33), none, (.call (.k (.clo 28 [])) [(.t 31), (.t 32)])⟩,
            ⟨(some 34), none, (.un .not (.t 33))⟩,
            ⟨(some 30), none, (.mv (.t 34))⟩])
          (.cond (.t 30)
           (.seq
            (.reg 6 none [8] [
              ⟨(some 8), none, (.mv (.k (.v (.int .i64 2))))⟩])
            .ret)
           .skip)))))))
    (.seq
     (.reg 7 none [8] [
       ⟨(some 8), none, (.mv (.k (.v (.int .i64 0))))⟩])
     .ret)))
theorem fn20 : FnIR Try.prog 20 35 [(0, [0, 1, 2, 3]), (1, [0, 1, 2, 3, 9]), (2, [8]), (3, [2, 3, 23]), (4, [8]), (5, [30]), (6, [8]), (7, [8])] ir20 [(.tmp 8)] :=
  ⟨Try.f20, _, Try.func20, rfl, by kernel_rfl, rfl, by kernel_rfl, by kernel_rfl⟩

/-- dataenclave/rounding.sums -/
def ir21 : RC :=
  (.seq
   (.reg 0 none [0, 1] [
     ⟨(some 4), none, (.mv (.k (.v (.slice none 0 0))))⟩])
   (.seq
    (.reg 1 none [0, 1, 5] [
      ⟨(some 9), none, (.mv (.t 1))⟩,
      ⟨(some 10), none, (.lenL (.t 9))⟩,
      ⟨(some 11), none, (.mv (.t 0))⟩,
      ⟨(some 12), none, (.bin .quo false (.t 10) (.t 11))⟩,
      ⟨(some 5), none, (.mv (.t 12))⟩])
    (.seq
     (.reg 2 none [0, 1, 5, 6] [
       ⟨(some 13), none, (.mv (.t 5))⟩,
       ⟨(some 14), none, (.mv (.t 0))⟩,
       ⟨(some 15), none, (.bin .add false (.t 13) (.t 14))⟩,
       ⟨(some 16), none, (.bin .add false (.t 15) (.k (.v (.int .i64 1))))⟩,
       ⟨(some 17), none, (.mk 1 8 (.v (.int .i64 0)) (.t 16) (.t 16))⟩,
       ⟨(some 6), none, (.mv (.t 17))⟩])
     (.seq
      (.seq
       (.reg 3 none [0, 5, 6, 18, 19, 20] [
         ⟨(some 18), none, (.mv (.t 1))⟩,
         ⟨(some 19), none, (.lenL (.t 18))⟩,
         ⟨(some 20), none, (.mv (.k (.v (.int .i64 0))))⟩])
       (.block 0
        (.loop
         (.seq
          (.reg 4 none [0, 5, 6, 18, 19, 20, 21] [
            ⟨(some 21), none, (.bin .lss false (.t 20) (.t 19))⟩])
          (.seq
           (.cond (.t 21)
            .skip
            (.exit 0))
           (.seq
            (.block 1
             (.seq
              (.reg 5 none [0, 5, 6, 7, 8, 18, 19, 20] [
                ⟨(some 22), none, (.mv (.t 20))⟩,
                ⟨(some 23), none, (.ixL 1 (.t 18) (.t 20))⟩,
                ⟨(some 24), none, (.ld none (.t 23))⟩,
                ⟨(some 7), none, (.mv (.t 22))⟩,
                ⟨(some 8), none, (.mv (.t 24))⟩])
              (.seq
               (.reg 6 none [0, 5, 6, 7, 8, 18, 19, 20] [
                 ⟨(some 25), none, (.mv (.t 6))⟩,
                 ⟨(some 26), none, (.mv (.t 7))⟩,
                 ⟨(some 27), none, (.mv (.t 0))⟩,
                 ⟨(some 28), none, (.bin .quo false (.t 26) (.t 27))⟩,
                 ⟨(some 29), none, (.ixL 1 (.t 25) (.t 28))⟩,
                 ⟨(some 30), none, (.ld none (.t 29))⟩,
                 ⟨(some 31), none, (.mv (.t 8))⟩,
                 ⟨(some 32), none, (.bin .add false (.t 30) (.t 31))⟩,
                 ⟨(some 33), none, (.ixL 1 (.t 25) (.t 28))⟩,
                 ⟨none, none, (.st 1 (.t 33) (.t 32))⟩])
               (.seq
                (.reg 7 none [0, 5, 6, 8, 18, 19, 20] [
                  ⟨(some 34), none, (.mv (.t 6))⟩,
                  ⟨(some 35), none, (.mv (.t 5))⟩,
                  ⟨(some 36), none, (.mv (.t 7))⟩,
                  ⟨(some 37), none, (.mv (.t 0))⟩,
                  ⟨(some 38), none, (.bin .rem false (.t 36) (.t 37))⟩,
                  ⟨(some 39), none, (.bin .add false (.t 35) (.t 38))⟩,
                  ⟨(some 40), none, (.ixL 1 (.t 34) (.t 39))⟩,
                  ⟨(some 41), none, (.ld none (.t 40))⟩,
                  ⟨(some 42), none, (.mv (.t 8))⟩,
                  ⟨(some 43), none, (.bin .add false (.t 41) (.t 42))⟩,
                  ⟨(some 44), none, (.ixL 1 (.t 34) (.t 39))⟩,
                  ⟨none, none, (.st 1 (.t 44) (.t 43))⟩])
                (.reg 8 none [0, 5, 6, 18, 19, 20] [
                  ⟨(some 45), none, (.mv (.t 6))⟩,
                  ⟨(some 46), none, (.mv (.t 5))⟩,
                  ⟨(some 47), none, (.mv (.t 0))⟩,
                  ⟨(some 48), none, (.bin .add false (.t 46) (.t 47))⟩,
                  ⟨(some 49), none, (.ixL 1 (.t 45) (.t 48))⟩,
                  ⟨(some 50), none, (.ld none (.t 49))⟩,
                  ⟨(some 51), none, (.mv (.t 8))⟩,
                  ⟨(some 52), none, (.bin .add false (.t 50) (.t 51))⟩,
                  ⟨(some 53), none, (.ixL 1 (.t 45) (.t 48))⟩,
                  ⟨none, none, (.st 1 (.t 53) (.t 52))⟩])))))
            (.reg 9 none [0, 5, 6, 18, 19, 20] [
              ⟨(some 54), none, (.bin .add false (.t 20) (.k (.v (.int .i64 1))))⟩,
              ⟨(some 20), none, (.mv (.t 54))⟩])))))))
      (.seq
       (.reg 10 none [4] [
         ⟨(some 55), none, (.mv (.t 6))⟩,
         ⟨(some 4), none, (.mv (.t 55))⟩])
       .ret)))))
theorem fn21 : FnIR Try.prog 21 56 [(0, [0, 1]), (1, [0, 1, 5]), (2, [0, 1, 5, 6]), (3, [0, 5, 6, 18, 19, 20]), (4, [0, 5, 6, 18, 19, 20, 21]), (5, [0, 5, 6, 7, 8, 18, 19, 20]), (6, [0, 5, 6, 7, 8, 18, 19, 20]), (7, [0, 5, 6, 8, 18, 19, 20]), (8, [0, 5, 6, 18, 19, 20]), (9, [0, 5, 6, 18, 19, 20]), (10, [4])] ir21 [(.tmp 4)] :=
  ⟨Try.f21, _, Try.func21, rfl, by kernel_rfl, rfl, by kernel_rfl, by kernel_rfl⟩

/-- (*dataenclave/rounding.search).next -/
def ir22 : RC :=
  (.seq
   (.reg 0 none [0, 1] [
     ⟨(some 4), none, (.mv (.k (.v (.bool false))))⟩])
   (.seq
    (.reg 1 (some [0, 1, 3, 7, 15, 0, 32, 96, 224, 511, 1023]) [0, 1, 5] [
      ⟨(some 12), none, (.mv (.t 0))⟩,
      ⟨(some 13), none, (.nc (.t 12))⟩,
      ⟨(some 14), none, (.fa 2 (.t 13))⟩,
      ⟨(some 15), none, (.ld none (.t 14))⟩,
      ⟨(some 16), none, (.lenL (.t 15))⟩,
      ⟨(some 17), none, (.mv (.t 0))⟩,
      ⟨(some 18), none, (.nc (.t 17))⟩,
      ⟨(some 19), none, (.fa 0 (.t 18))⟩,
      ⟨(some 20), none, (.ld none (.t 19))⟩,
      ⟨(some 21), none, (.bin .quo false (.t 16) (.t 20))⟩,
      ⟨(some 5), none, (.mv (.t 21))⟩])
    (.seq
     (.seq
      (.reg 2 (some [0, 1, 3, 7, 7, 23, 55, 119, 255, 511, 1023, 2047, 4095, 8191, 16383, 32767, 4095, 4095, 135167, 397311, 921599, 2035711, 4132863, 8388607, 16777215, 4095, 33558527, 100667391, 234885119, 4095, 536875007, 1610616831, 3758100479, 8589934591, 17179869183, 34359738367]) [0, 1, 5, 57] [
        ⟨(some 22), none, (.mv (.t 1))⟩,
        ⟨(some 23), none, (.bin .gtr false (.t 22) (.k (.v (.int .i64 0))))⟩,
        ⟨(some 24), none, (.mv (.t 23))⟩,
        ⟨(some 25), (some (24, true)), (.mv (.t 1))⟩,
        ⟨(some 26), (some (24, true)), (.mv (.t 0))⟩,
        ⟨(some 27), (some (24, true)), (.nc (.t 26))⟩,
        ⟨(some 28), (some (24, true)), (.fa 0 (.t 27))⟩,
        ⟨(some 29), (some (24, true)), (.ld none (.t 28))⟩,
        ⟨(some 30), (some (24, true)), (.bin .rem false (.t 25) (.t 29))⟩,
        ⟨(some 31), (some (24, true)), (.bin .eql false (.t 30) (.k (.v (.int .i64 0))))⟩,
        ⟨(some 32), none, (.pick (.t 24) (.t 31) (.k (.v (.bool false))))⟩,
        ⟨(some 33), none, (.mv (.t 32))⟩,
        ⟨(some 34), (some (33, true)), (.mv (.t 0))⟩,
        ⟨(some 35), (some (33, true)), (.nc (.t 34))⟩,
        ⟨(some 36), (some (33, true)), (.fa 4 (.t 35))⟩,
        ⟨(some 37), (some (33, true)), (.ld none (.t 36))⟩,
        ⟨(some 38), (some (33, true)), (.mv (.t 1))⟩,
        ⟨(some 39), (some (33, true)), (.mv (.t 0))⟩,
        ⟨(some 40), (some (33, true)), (.nc (.t 39))⟩,
        ⟨(some 41), (some (33, true)), (.fa 0 (.t 40))⟩,
        ⟨(some 42), (some (33, true)), (.ld none (.t 41))⟩,
        ⟨(some 43), (some (33, true)), (.bin .quo false (.t 38) (.t 42))⟩,
        ⟨(some 44), (some (33, true)), (.bin .sub false (.t 43) (.k (.v (.int .i64 1))))⟩,
        ⟨(some 45), (some (33, true)), (.ixL 1 (.t 37) (.t 44))⟩,
        ⟨(some 46), (some (33, true)), (.ld none (.t 45))⟩,
        ⟨(some 47), (some (33, true)), (.mv (.t 0))⟩,
        ⟨(some 48), (some (33, true)), (.nc (.t 47))⟩,
        ⟨(some 49), (some (33, true)), (.fa 17 (.t 48))⟩,
        ⟨(some 50), (some (33, true)), (.ld none (.t 49))⟩,
        ⟨(some 51), (some (33, true)), (.mv (.t 0))⟩,
        ⟨(some 52), (some (33, true)), (.nc (.t 51))⟩,
        ⟨(some 53), (some (33, true)), (.fa 1 (.t 52))⟩,
        ⟨(some 54), (some (33, true)), (.ld none (.t 53))⟩,
        ⟨(some 55), (some (33, true)), (.call (.k (.clo 30 [])) [(.t 46), (.t 50), (.t 54)])⟩,
        ⟨(some 56), (some (33, true)), (.un .not (.t 55))⟩,
        ⟨(some 57), none, (.pick (.t 33) (.t 56) (.k (.v (.bool false))))⟩])
      (.cond (.t 57)
       (.seq
        (.reg 3 none [4] [
          ⟨(some 4), none, (.mv (.k (.v (.bool false))))⟩])
        .ret)
       .skip))
     (.seq
      (.seq
       (.reg 4 none [0, 1, 5, 64] [
         ⟨(some 58), none, (.mv (.t 1))⟩,
         ⟨(some 59), none, (.mv (.t 0))⟩,
         ⟨(some 60), none, (.nc (.t 59))⟩,
         ⟨(some 61), none, (.fa 2 (.t 60))⟩,
         ⟨(some 62), none, (.ld none (.t 61))⟩,
         ⟨(some 63), none, (.lenL (.t 62))⟩,
         ⟨(some 64), none, (.bin .eql false (.t 58) (.t 63))⟩])
       (.cond (.t 64)
        (.seq
         (.seq
          (.reg 5 none [0, 5, 68, 69] [
            ⟨(some 65), none, (.mv (.t 0))⟩,
            ⟨(some 66), none, (.nc (.t 65))⟩,
            ⟨(some 67), none, (.fa 0 (.t 66))⟩,
            ⟨(some 68), none, (.ld none (.t 67))⟩,
            ⟨(some 69), none, (.mv (.k (.v (.int .i64 0))))⟩])
          (.block 0
           (.loop
            (.seq
             (.reg 6 none [0, 5, 68, 69, 70] [
               ⟨(some 70), none, (.bin .lss false (.t 69) (.t 68))⟩])
             (.seq
              (.cond (.t 70)
               .skip
               (.exit 0))
              (.seq
               (.block 1
                (.seq
                 (.reg 7 none [0, 5, 6, 68, 69] [
                   ⟨(some 71), none, (.mv (.t 69))⟩,
                   ⟨(some 6), none, (.mv (.t 71))⟩])
                 (.seq
                  (.reg 8 (some [0, 1, 3, 7, 0, 0, 48, 127, 255, 0, 0, 512, 2560, 7680, 15872, 0, 32768, 98304, 229376, 524287, 1048575]) [0, 5, 68, 69, 92] [
                    ⟨(some 72), none, (.mv (.t 0))⟩,
                    ⟨(some 73), none, (.nc (.t 72))⟩,
                    ⟨(some 74), none, (.fa 4 (.t 73))⟩,
                    ⟨(some 75), none, (.ld none (.t 74))⟩,
                    ⟨(some 76), none, (.mv (.t 5))⟩,
                    ⟨(some 77), none, (.mv (.t 6))⟩,
                    ⟨(some 78), none, (.bin .add false (.t 76) (.t 77))⟩,
                    ⟨(some 79), none, (.ixL 1 (.t 75) (.t 78))⟩,
                    ⟨(some 80), none, (.ld none (.t 79))⟩,
                    ⟨(some 81), none, (.mv (.t 0))⟩,
                    ⟨(some 82), none, (.mv (.t 6))⟩,
                    ⟨(some 83), none, (.nc (.t 81))⟩,
                    ⟨(some 84), none, (.fa 5 (.t 83))⟩,
                    ⟨(some 85), none, (.ixA 12 1 (.t 84) (.t 82))⟩,
                    ⟨(some 86), none, (.ld none (.t 85))⟩,
                    ⟨(some 87), none, (.mv (.t 0))⟩,
                    ⟨(some 88), none, (.nc (.t 87))⟩,
                    ⟨(some 89), none, (.fa 1 (.t 88))⟩,
                    ⟨(some 90), none, (.ld none (.t 89))⟩,
                    ⟨(some 91), none, (.call (.k (.clo 30 [])) [(.t 80), (.t 86), (.t 90)])⟩,
                    ⟨(some 92), none, (.un .not (.t 91))⟩])
                  (.cond (.t 92)
                   (.seq
                    (.reg 9 none [4] [
                      ⟨(some 4), none, (.mv (.k (.v (.bool false))))⟩])
                    .ret)
                   .skip))))
               (.reg 10 none [0, 5, 68, 69] [
                 ⟨(some 93), none, (.bin .add false (.t 69) (.k (.v (.int .i64 1))))⟩,
                 ⟨(some 69), none, (.mv (.t 93))⟩])))))))
         (.seq
          (.reg 11 (some [0, 1, 3, 7, 0, 0, 32, 96, 224, 496, 1023, 2047, 0, 4096, 12288, 28672, 0, 65536, 196608, 458752, 1048575, 2097151]) [4] [
            ⟨(some 94), none, (.mv (.t 0))⟩,
            ⟨(some 95), none, (.nc (.t 94))⟩,
            ⟨(some 96), none, (.fa 4 (.t 95))⟩,
            ⟨(some 97), none, (.ld none (.t 96))⟩,
            ⟨(some 98), none, (.mv (.t 5))⟩,
            ⟨(some 99), none, (.mv (.t 0))⟩,
            ⟨(some 100), none, (.nc (.t 99))⟩,
            ⟨(some 101), none, (.fa 0 (.t 100))⟩,
            ⟨(some 102), none, (.ld none (.t 101))⟩,
            ⟨(some 103), none, (.bin .add false (.t 98) (.t 102))⟩,
            ⟨(some 104), none, (.ixL 1 (.t 97) (.t 103))⟩,
            ⟨(some 105), none, (.ld none (.t 104))⟩,
            ⟨(some 106), none, (.mv (.t 0))⟩,
            ⟨(some 107), none, (.nc (.t 106))⟩,
            ⟨(some 108), none, (.fa 18 (.t 107))⟩,
            ⟨(some 109), none, (.ld none (.t 108))⟩,
            ⟨(some 110), none, (.mv (.t 0))⟩,
            ⟨(some 111), none, (.nc (.t 110))⟩,
            ⟨(some 112), none, (.fa 1 (.t 111))⟩,
            ⟨(some 113), none, (.ld none (.t 112))⟩,
            ⟨(some 114), none, (.call (.k (.clo 30 [])) [(.t 105), (.t 109), (.t 113)])⟩,
            ⟨(some 4), none, (.mv (.t 114))⟩])
          .ret))
        .skip))
      (.seq
       (.reg 12 none [0, 1, 7] [
         ⟨(some 115), none, (.mv (.t 0))⟩,
         ⟨(some 116), none, (.nc (.t 115))⟩,
         ⟨(some 117), none, (.fa 17 (.t 116))⟩,
         ⟨(some 118), none, (.ld none (.t 117))⟩,
         ⟨(some 7), none, (.mv (.t 118))⟩])
       (.seq
        (.seq
         (.reg 13 none [0, 1, 7, 125] [
           ⟨(some 119), none, (.mv (.t 1))⟩,
           ⟨(some 120), none, (.mv (.t 0))⟩,
           ⟨(some 121), none, (.nc (.t 120))⟩,
           ⟨(some 122), none, (.fa 0 (.t 121))⟩,
           ⟨(some 123), none, (.ld none (.t 122))⟩,
           ⟨(some 124), none, (.bin .rem false (.t 119) (.t 123))⟩,
           ⟨(some 125), none, (.bin .eql false (.t 124) (.k (.v (.int .i64 0))))⟩])
         (.cond (.t 125)
          (.reg 14 none [0, 1, 7] [
            ⟨(some 7), none, (.mv (.k (.v (.int .i64 0))))⟩])
          .skip))
        (.seq
         (.reg 15 (some [0, 1, 3, 7, 0, 16, 48, 112, 0, 271, 1023]) [0, 1, 7, 8, 9] [
           ⟨(some 126), none, (.mv (.t 0))⟩,
           ⟨(some 127), none, (.nc (.t 126))⟩,
           ⟨(some 128), none, (.fa 5 (.t 127))⟩,
           ⟨(some 129), none, (.ld (some 12) (.t 128))⟩,
           ⟨(some 130), none, (.mv (.t 0))⟩,
           ⟨(some 131), none, (.nc (.t 130))⟩,
           ⟨(some 132), none, (.fa 18 (.t 131))⟩,
           ⟨(some 133), none, (.ld none (.t 132))⟩,
           ⟨(some 8), none, (.new (.agg [(.v (.int .i64 0)), (.v (.int .i64 0)), (.v (.int .i64 0)), (.v (.int .i64 0)), (.v (.int .i64 0)), (.v (.int .i64 0)), (.v (.int .i64 0)), (.v (.int .i64 0)), (.v (.int .i64 0)), (.v (.int .i64 0)), (.v (.int .i64 0)), (.v (.int .i64 0))]))⟩,
           ⟨none, none, (.st 12 (.t 8) (.t 129))⟩,
           ⟨(some 9), none, (.mv (.t 133))⟩])
         (.seq
          (.seq
           (.reg 16 (some [0, 1, 3, 7, 0, 31, 63, 0, 128, 384, 896, 2047, 4095, 0]) [0, 1, 7, 8, 9, 145, 146, 147] [
             ⟨(some 134), none, (.mv (.t 0))⟩,
             ⟨(some 135), none, (.nc (.t 134))⟩,
             ⟨(some 136), none, (.fa 2 (.t 135))⟩,
             ⟨(some 137), none, (.ld none (.t 136))⟩,
             ⟨(some 138), none, (.mv (.t 1))⟩,
             ⟨(some 139), none, (.ixL 1 (.t 137) (.t 138))⟩,
             ⟨(some 140), none, (.ld none (.t 139))⟩,
             ⟨(some 141), none, (.mv (.t 0))⟩,
             ⟨(some 142), none, (.nc (.t 141))⟩,
             ⟨(some 143), none, (.fa 1 (.t 142))⟩,
             ⟨(some 144), none, (.ld none (.t 143))⟩,
             ⟨(some 145), none, (.call (.k (.clo 29 [])) [(.t 140), (.t 144)])⟩,
             ⟨(some 146), none, (.lenL (.t 145))⟩,
             ⟨(some 147), none, (.mv (.k (.v (.int .i64 0))))⟩])
           (.block 2
            (.loop
             (.seq
              (.reg 17 none [0, 1, 7, 8, 9, 145, 146, 147, 148] [
                ⟨(some 148), none, (.bin .lss false (.t 147) (.t 146))⟩])
              (.seq
               (.cond (.t 148)
                .skip
                (.exit 2))
               (.seq
                (.block 3
                 (.seq
                  (.reg 18 none [0, 1, 7, 8, 9, 11, 145, 146, 147] [
                    ⟨(some 149), none, (.ixL 1 (.t 145) (.t 147))⟩,
                    ⟨(some 150), none, (.ld none (.t 149))⟩,
                    ⟨(some 11), none, (.mv (.t 150))⟩])
                  (.seq
                   (.reg 19 (some [0, 1, 3, 7, 0, 0, 0, 0, 0, 0, 0, 1536, 0, 0, 12288, 0, 287, 65823, 200511, 462655, 986943, 2064255, 4161407, 8355711, 16777215, 33554431, 67108863]) [0, 1, 7, 8, 9, 11, 145, 146, 147] [
                     ⟨(some 151), none, (.mv (.t 0))⟩,
                     ⟨(some 152), none, (.nc (.t 151))⟩,
                     ⟨(some 153), none, (.fa 3 (.t 152))⟩,
                     ⟨(some 154), none, (.ld none (.t 153))⟩,
                     ⟨(some 155), none, (.mv (.t 1))⟩,
                     ⟨(some 156), none, (.mv (.t 0))⟩,
                     ⟨(some 157), none, (.mv (.t 0))⟩,
                     ⟨(some 158), none, (.mv (.t 0))⟩,
                     ⟨(some 159), none, (.mv (.t 11))⟩,
                     ⟨(some 160), none, (.mv (.t 7))⟩,
                     ⟨(some 161), none, (.mv (.t 11))⟩,
                     ⟨(some 162), none, (.bin .add false (.t 160) (.t 161))⟩,
                     ⟨(some 163), none, (.mv (.t 9))⟩,
                     ⟨(some 164), none, (.mv (.t 11))⟩,
                     ⟨(some 165), none, (.bin .add false (.t 163) (.t 164))⟩,
                     ⟨(some 166), none, (.ld (some 12) (.t 8))⟩,
                     ⟨(some 167), none, (.ixL 1 (.t 154) (.t 155))⟩,
                     ⟨none, none, (.st 1 (.t 167) (.t 159))⟩,
                     ⟨(some 168), none, (.nc (.t 156))⟩,
                     ⟨(some 169), none, (.fa 17 (.t 168))⟩,
                     ⟨none, none, (.st 1 (.t 169) (.t 162))⟩,
                     ⟨(some 170), none, (.nc (.t 157))⟩,
                     ⟨(some 171), none, (.fa 18 (.t 170))⟩,
                     ⟨none, none, (.st 1 (.t 171) (.t 165))⟩,
                     ⟨(some 172), none, (.nc (.t 158))⟩,
                     ⟨(some 173), none, (.fa 5 (.t 172))⟩,
                     ⟨none, none, (.st 12 (.t 173) (.t 166))⟩])
                   (.seq
                    (.reg 20 (some [0, 0, 0, 4, 12, 28, 62, 1, 129, 511, 1023, 0, 4095, 1, 8193, 32767, 65535]) [0, 1, 7, 8, 9, 145, 146, 147] [
                      ⟨(some 174), none, (.mv (.t 0))⟩,
                      ⟨(some 175), none, (.mv (.t 1))⟩,
                      ⟨(some 176), none, (.mv (.t 0))⟩,
                      ⟨(some 177), none, (.nc (.t 176))⟩,
                      ⟨(some 178), none, (.fa 0 (.t 177))⟩,
                      ⟨(some 179), none, (.ld none (.t 178))⟩,
                      ⟨(some 180), none, (.bin .rem false (.t 175) (.t 179))⟩,
                      ⟨(some 181), none, (.nc (.t 174))⟩,
                      ⟨(some 182), none, (.fa 5 (.t 181))⟩,
                      ⟨(some 183), none, (.ixA 12 1 (.t 182) (.t 180))⟩,
                      ⟨(some 184), none, (.ld none (.t 183))⟩,
                      ⟨(some 185), none, (.mv (.t 11))⟩,
                      ⟨(some 186), none, (.bin .add false (.t 184) (.t 185))⟩,
                      ⟨(some 187), none, (.nc (.t 174))⟩,
                      ⟨(some 188), none, (.fa 5 (.t 187))⟩,
                      ⟨(some 189), none, (.ixA 12 1 (.t 188) (.t 180))⟩,
                      ⟨none, none, (.st 1 (.t 189) (.t 186))⟩])
                    (.seq
                     (.reg 21 none [0, 1, 7, 8, 9, 145, 146, 147, 193] [
                       ⟨(some 190), none, (.mv (.t 0))⟩,
                       ⟨(some 191), none, (.mv (.t 1))⟩,
                       ⟨(some 192), none, (.bin .add false (.t 191) (.k (.v (.int .i64 1))))⟩,
                       ⟨(some 193), none, (.call (.k (.clo 22 [])) [(.t 190), (.t 192)])⟩])
                     (.cond (.t 193)
                      (.seq
                       (.reg 22 none [4] [
                         ⟨(some 4), none, (.mv (.k (.v (.bool true))))⟩])
                       .ret)
                      .skip))))))
                (.reg 23 none [0, 1, 7, 8, 9, 145, 146, 147] [
                  ⟨(some 194), none, (.bin .add false (.t 147) (.k (.v (.int .i64 1))))⟩,
                  ⟨(some 147), none, (.mv (.t 194))⟩])))))))
          (.seq
           (.reg 24 none [4] [
             ⟨(some 4), none, (.mv (.k (.v (.bool false))))⟩])
           .ret)))))))))
theorem fn22 : FnIR Try.prog 22 195 [(0, [0, 1]), (1, [0, 1, 5]), (2, [0, 1, 5, 57]), (3, [4]), (4, [0, 1, 5, 64]), (5, [0, 5, 68, 69]), (6, [0, 5, 68, 69, 70]), (7, [0, 5, 6, 68, 69]), (8, [0, 5, 68, 69, 92]), (9, [4]), (10, [0, 5, 68, 69]), (11, [4]), (12, [0, 1, 7]), (13, [0, 1, 7, 125]), (14, [0, 1, 7]), (15, [0, 1, 7, 8, 9]), (16, [0, 1, 7, 8, 9, 145, 146, 147]), (17, [0, 1, 7, 8, 9, 145, 146, 147, 148]), (18, [0, 1, 7, 8, 9, 11, 145, 146, 147]), (19, [0, 1, 7, 8, 9, 11, 145, 146, 147]), (20, [0, 1, 7, 8, 9, 145, 146, 147]), (21, [0, 1, 7, 8, 9, 145, 146, 147, 193]), (22, [4]), (23, [0, 1, 7, 8, 9, 145, 146, 147]), (24, [4])] ir22 [(.tmp 4)] :=
  ⟨Try.f22, _, Try.func22, rfl, by kernel_rfl, rfl, by kernel_rfl, by kernel_rfl⟩

/-- dataenclave/rounding.rounds -/
def ir23 : RC :=
  (.seq
   (.reg 0 none [0, 1, 2] [
     ⟨(some 6), none, (.mv (.k (.v (.bool false))))⟩])
   (.seq
    (.seq
     (.reg 1 none [1, 2, 9, 10, 11] [
       ⟨(some 9), none, (.mv (.t 0))⟩,
       ⟨(some 10), none, (.lenL (.t 9))⟩,
       ⟨(some 11), none, (.mv (.k (.v (.int .i64 0))))⟩])
     (.block 0
      (.loop
       (.seq
        (.reg 2 none [1, 2, 9, 10, 11, 12] [
          ⟨(some 12), none, (.bin .lss false (.t 11) (.t 10))⟩])
        (.seq
         (.cond (.t 12)
          .skip
          (.exit 0))
         (.seq
          (.block 1
           (.seq
            (.reg 3 none [1, 2, 7, 8, 9, 10, 11] [
              ⟨(some 13), none, (.mv (.t 11))⟩,
              ⟨(some 14), none, (.ixL 1 (.t 9) (.t 11))⟩,
              ⟨(some 15), none, (.ld none (.t 14))⟩,
              ⟨(some 7), none, (.mv (.t 13))⟩,
              ⟨(some 8), none, (.mv (.t 15))⟩])
            (.seq
             (.reg 4 none [1, 2, 9, 10, 11, 23] [
               ⟨(some 16), none, (.mv (.t 8))⟩,
               ⟨(some 17), none, (.mv (.t 1))⟩,
               ⟨(some 18), none, (.mv (.t 7))⟩,
               ⟨(some 19), none, (.ixL 1 (.t 17) (.t 18))⟩,
               ⟨(some 20), none, (.ld none (.t 19))⟩,
               ⟨(some 21), none, (.mv (.t 2))⟩,
               ⟨(some 22), none, (.call (.k (.clo 30 [])) [(.t 16), (.t 20), (.t 21)])⟩,
               ⟨(some 23), none, (.un .not (.t 22))⟩])
             (.cond (.t 23)
              (.seq
               (.reg 5 none [6] [
                 ⟨(some 6), none, (.mv (.k (.v (.bool false))))⟩])
               .ret)
              .skip))))
          (.reg 6 none [1, 2, 9, 10, 11] [
            ⟨(some 24), none, (.bin .add false (.t 11) (.k (.v (.int .i64 1))))⟩,
            ⟨(some 11), none, (.mv (.t 24))⟩])))))))
    (.seq
     (.reg 7 none [6] [
       ⟨(some 6), none, (.mv (.k (.v (.bool true))))⟩])
     .ret)))
theorem fn23 : FnIR Try.prog 23 25 [(0, [0, 1, 2]), (1, [1, 2, 9, 10, 11]), (2, [1, 2, 9, 10, 11, 12]), (3, [1, 2, 7, 8, 9, 10, 11]), (4, [1, 2, 9, 10, 11, 23]), (5, [6]), (6, [1, 2, 9, 10, 11]), (7, [6])] ir23 [(.tmp 6)] :=
  ⟨Try.f23, _, Try.func23, rfl, by kernel_rfl, rfl, by kernel_rfl, by kernel_rfl⟩

/-- dataenclave/dataenclaveref34.check -/
def ir24 : RC :=
  (.seq
   (.reg 0 none [0, 1, 2, 3] [
     ⟨(some 8), none, (.mv (.k (.v (.int .i64 0))))⟩])
   (.seq
    (.seq
     (.reg 1 none [0, 1, 2, 3, 28] [
       ⟨(some 9), none, (.mv (.t 0))⟩,
       ⟨(some 10), none, (.bin .lss false (.t 9) (.k (.v (.int .i64 1))))⟩,
       ⟨(some 11), none, (.mv (.t 10))⟩,
       ⟨(some 12), (some (11, false)), (.mv (.t 1))⟩,
       ⟨(some 13), (some (11, false)), (.bin .lss false (.t 12) (.k (.v (.int .i64 1))))⟩,
       ⟨(some 14), none, (.pick (.t 11) (.k (.v (.bool true))) (.t 13))⟩,
       ⟨(some 15), none, (.mv (.t 14))⟩,
       ⟨(some 16), (some (15, false)), (.mv (.t 0))⟩,
       ⟨(some 17), (some (15, false)), (.bin .gtr false (.t 16) (.k (.v (.int .i64 12))))⟩,
       ⟨(some 18), none, (.pick (.t 15) (.k (.v (.bool true))) (.t 17))⟩,
       ⟨(some 19), none, (.mv (.t 18))⟩,
       ⟨(some 20), (some (19, false)), (.mv (.t 1))⟩,
       ⟨(some 21), (some (19, false)), (.bin .gtr false (.t 20) (.k (.v (.int .i64 12))))⟩,
       ⟨(some 22), none, (.pick (.t 19) (.k (.v (.bool true))) (.t 21))⟩,
       ⟨(some 23), none, (.mv (.t 22))⟩,
       ⟨(some 24), (some (23, false)), (.mv (.t 0))⟩,
       ⟨(some 25), (some (23, false)), (.mv (.t 1))⟩,
       ⟨(some 26), (some (23, false)), (.bin .mul false (.t 24) (.t 25))⟩,
       ⟨(some 27), (some (23, false)), (.bin .gtr false (.t 26) (.k (.v (.int .i64 12))))⟩,
       ⟨(some 28), none, (.pick (.t 23) (.k (.v (.bool true))) (.t 27))⟩])
     (.cond (.t 28)
      (.seq
       (.reg 2 none [8] [
         ⟨(some 8), none, (.mv (.k (.v (.int .i64 55))))⟩])
       .ret)
      .skip))
    (.seq
     (.seq
      (.reg 3 none [2, 3, 34] [
        ⟨(some 29), none, (.mv (.t 2))⟩,
        ⟨(some 30), none, (.lenL (.t 29))⟩,
        ⟨(some 31), none, (.mv (.t 0))⟩,
        ⟨(some 32), none, (.mv (.t 1))⟩,
        ⟨(some 33), none, (.bin .mul false (.t 31) (.t 32))⟩,
        ⟨(some 34), none, (.bin .neq false (.t 30) (.t 33))⟩])
      (.cond (.t 34)
       (.seq
        (.reg 4 none [8] [
          ⟨(some 8), none, (.mv (.k (.v (.int .i64 17))))⟩])
        .ret)
       .skip))
     (.seq
      (.reg 5 none [8] [
        ⟨(some 35), none, (.mv (.t 2))⟩,
        ⟨(some 36), none, (.mv (.t 3))⟩,
        ⟨(some 37), none, (.call (.k (.clo 26 [])) [(.t 35), (.t 36)])⟩,
        ⟨(some 8), none, (.mv (.t 37))⟩])
      .ret))))
theorem fn24 : FnIR Try.prog 24 38 [(0, [0, 1, 2, 3]), (1, [0, 1, 2, 3, 28]), (2, [8]), (3, [2, 3, 34]), (4, [8]), (5, [8])] ir24 [(.tmp 8)] :=
  ⟨Try.f24, _, Try.func24, rfl, by kernel_rfl, rfl, by kernel_rfl, by kernel_rfl⟩

/-- dataenclave/dataenclaveref34.fits -/
def ir25 : RC :=
  (.seq
   (.reg 0 none [0, 1, 2, 3, 4] [
     ⟨(some 10), none, (.mv (.k (.v (.bool false))))⟩])
   (.seq
    (.reg 1 none [0, 1, 2, 3, 4, 11, 12] [
      ⟨(some 11), none, (.mv (.k (.v (.int .i64 0))))⟩,
      ⟨(some 12), none, (.mv (.k (.v (.int .i64 0))))⟩])
    (.seq
     (.seq
      (.reg 2 none [0, 1, 2, 3, 4, 11, 12, 13] [
        ⟨(some 13), none, (.mv (.k (.v (.int .i64 0))))⟩])
      (.block 0
       (.loop
        (.seq
         (.seq
          (.reg 3 none [0, 1, 2, 3, 4, 11, 12, 13, 23] [
            ⟨(some 21), none, (.mv (.t 13))⟩,
            ⟨(some 22), none, (.mv (.t 0))⟩,
            ⟨(some 23), none, (.bin .lss false (.t 21) (.t 22))⟩])
          (.cond (.t 23)
           .skip
           (.exit 0)))
         (.seq
          (.block 1
           (.seq
            (.reg 5 none [0, 1, 2, 3, 4, 11, 12, 13, 14, 15] [
              ⟨(some 14), none, (.mv (.k (.v (.int .i64 0))))⟩,
              ⟨(some 15), none, (.mv (.k (.v (.int .i64 0))))⟩])
            (.seq
             (.seq
              (.reg 6 none [0, 1, 2, 3, 4, 11, 12, 13, 14, 15, 16] [
                ⟨(some 16), none, (.mv (.k (.v (.int .i64 0))))⟩])
              (.block 2
               (.loop
                (.seq
                 (.seq
                  (.reg 7 none [0, 1, 2, 3, 4, 11, 12, 13, 14, 15, 16, 28] [
                    ⟨(some 26), none, (.mv (.t 16))⟩,
                    ⟨(some 27), none, (.mv (.t 1))⟩,
                    ⟨(some 28), none, (.bin .lss false (.t 26) (.t 27))⟩])
                  (.cond (.t 28)
                   .skip
                   (.exit 2)))
                 (.seq
                  (.block 3
                   (.seq
                    (.seq
                     (.reg 9 (some [0, 0, 0, 6, 0, 30, 63, 127, 0, 0, 0, 1536, 0, 7680, 16128, 32512, 0, 131071, 262143]) [0, 1, 2, 3, 4, 11, 12, 13, 14, 15, 16, 49] [
                       ⟨(some 31), none, (.mv (.t 2))⟩,
                       ⟨(some 32), none, (.mv (.t 13))⟩,
                       ⟨(some 33), none, (.mv (.t 1))⟩,
                       ⟨(some 34), none, (.bin .mul false (.t 32) (.t 33))⟩,
                       ⟨(some 35), none, (.mv (.t 16))⟩,
                       ⟨(some 36), none, (.bin .add false (.t 34) (.t 35))⟩,
                       ⟨(some 37), none, (.ixL 1 (.t 31) (.t 36))⟩,
                       ⟨(some 38), none, (.ld none (.t 37))⟩,
                       ⟨(some 39), none, (.mv (.t 3))⟩,
                       ⟨(some 40), none, (.mv (.t 13))⟩,
                       ⟨(some 41), none, (.mv (.t 1))⟩,
                       ⟨(some 42), none, (.bin .mul false (.t 40) (.t 41))⟩,
                       ⟨(some 43), none, (.mv (.t 16))⟩,
                       ⟨(some 44), none, (.bin .add false (.t 42) (.t 43))⟩,
                       ⟨(some 45), none, (.ixL 1 (.t 39) (.t 44))⟩,
                       ⟨(some 46), none, (.ld none (.t 45))⟩,
                       ⟨(some 47), none, (.mv (.t 4))⟩,
                       ⟨(some 48), none, (.call (.k (.clo 27 [])) [(.t 38), (.t 46), (.t 47)])⟩,
                       ⟨(some 49), none, (.un .not (.t 48))⟩])
                     (.cond (.t 49)
                      (.seq
                       (.reg 10 none [10] [
                         ⟨(some 10), none, (.mv (.k (.v (.bool false))))⟩])
                       .ret)
                      .skip))
                    (.reg 11 (some [0, 0, 0, 0, 12, 0, 60, 126, 254, 511, 0, 0, 0, 0, 12288, 0, 61440, 129024, 260096, 523264, 1023, 2097151]) [0, 1, 2, 3, 4, 11, 12, 13, 14, 15, 16] [
                      ⟨(some 50), none, (.mv (.t 14))⟩,
                      ⟨(some 51), none, (.mv (.t 2))⟩,
                      ⟨(some 52), none, (.mv (.t 13))⟩,
                      ⟨(some 53), none, (.mv (.t 1))⟩,
                      ⟨(some 54), none, (.bin .mul false (.t 52) (.t 53))⟩,
                      ⟨(some 55), none, (.mv (.t 16))⟩,
                      ⟨(some 56), none, (.bin .add false (.t 54) (.t 55))⟩,
                      ⟨(some 57), none, (.ixL 1 (.t 51) (.t 56))⟩,
                      ⟨(some 58), none, (.ld none (.t 57))⟩,
                      ⟨(some 59), none, (.bin .add false (.t 50) (.t 58))⟩,
                      ⟨(some 60), none, (.mv (.t 15))⟩,
                      ⟨(some 61), none, (.mv (.t 3))⟩,
                      ⟨(some 62), none, (.mv (.t 13))⟩,
                      ⟨(some 63), none, (.mv (.t 1))⟩,
                      ⟨(some 64), none, (.bin .mul false (.t 62) (.t 63))⟩,
                      ⟨(some 65), none, (.mv (.t 16))⟩,
                      ⟨(some 66), none, (.bin .add false (.t 64) (.t 65))⟩,
                      ⟨(some 67), none, (.ixL 1 (.t 61) (.t 66))⟩,
                      ⟨(some 68), none, (.ld none (.t 67))⟩,
                      ⟨(some 69), none, (.bin .add false (.t 60) (.t 68))⟩,
                      ⟨(some 14), none, (.mv (.t 59))⟩,
                      ⟨(some 15), none, (.mv (.t 69))⟩])))
                  (.reg 8 none [0, 1, 2, 3, 4, 11, 12, 13, 14, 15, 16] [
                    ⟨(some 29), none, (.mv (.t 16))⟩,
                    ⟨(some 30), none, (.bin .add false (.t 29) (.k (.v (.int .i64 1))))⟩,
                    ⟨(some 16), none, (.mv (.t 30))⟩]))))))
             (.seq
              (.seq
               (.reg 12 none [0, 1, 2, 3, 4, 11, 12, 13, 14, 15, 74] [
                 ⟨(some 70), none, (.mv (.t 14))⟩,
                 ⟨(some 71), none, (.mv (.t 15))⟩,
                 ⟨(some 72), none, (.mv (.t 4))⟩,
                 ⟨(some 73), none, (.call (.k (.clo 27 [])) [(.t 70), (.t 71), (.t 72)])⟩,
                 ⟨(some 74), none, (.un .not (.t 73))⟩])
               (.cond (.t 74)
                (.seq
                 (.reg 13 none [10] [
                   ⟨(some 10), none, (.mv (.k (.v (.bool false))))⟩])
                 .ret)
                .skip))
              (.reg 14 none [0, 1, 2, 3, 4, 11, 12, 13] [
                ⟨(some 75), none, (.mv (.t 12))⟩,
                ⟨(some 76), none, (.mv (.t 14))⟩,
                ⟨(some 77), none, (.bin .add false (.t 75) (.t 76))⟩,
                ⟨(some 78), none, (.mv (.t 11))⟩,
                ⟨(some 79), none, (.mv (.t 15))⟩,
                ⟨(some 80), none, (.bin .add false (.t 78) (.t 79))⟩,
                ⟨(some 12), none, (.mv (.t 77))⟩,
                ⟨(some 11), none, (.mv (.t 80))⟩])))))
          (.reg 4 none [0, 1, 2, 3, 4, 11, 12, 13] [
            ⟨(some 24), none, (.mv (.t 13))⟩,
            ⟨(some 25), none, (.bin .add false (.t 24) (.k (.v (.int .i64 1))))⟩,
            ⟨(some 13), none, (.mv (.t 25))⟩]))))))
     (.seq
      (.seq
       (.reg 15 none [0, 1, 2, 3, 4, 11, 12, 17] [
         ⟨(some 17), none, (.mv (.k (.v (.int .i64 0))))⟩])
       (.block 4
        (.loop
         (.seq
          (.seq
           (.reg 16 none [0, 1, 2, 3, 4, 11, 12, 17, 83] [
             ⟨(some 81), none, (.mv (.t 17))⟩,
             ⟨(some 82), none, (.mv (.t 1))⟩,
             ⟨(some 83), none, (.bin .lss false (.t 81) (.t 82))⟩])
           (.cond (.t 83)
            .skip
            (.exit 4)))
          (.seq
           (.block 5
            (.seq
             (.reg 18 none [0, 1, 2, 3, 4, 11, 12, 17, 18, 19] [
               ⟨(some 18), none, (.mv (.k (.v (.int .i64 0))))⟩,
               ⟨(some 19), none, (.mv (.k (.v (.int .i64 0))))⟩])
             (.seq
              (.seq
               (.reg 19 none [0, 1, 2, 3, 4, 11, 12, 17, 18, 19, 20] [
                 ⟨(some 20), none, (.mv (.k (.v (.int .i64 0))))⟩])
               (.block 6
                (.loop
                 (.seq
                  (.seq
                   (.reg 20 none [0, 1, 2, 3, 4, 11, 12, 17, 18, 19, 20, 88] [
                     ⟨(some 86), none, (.mv (.t 20))⟩,
                     ⟨(some 87), none, (.mv (.t 0))⟩,
                     ⟨(some 88), none, (.bin .lss false (.t 86) (.t 87))⟩])
                   (.cond (.t 88)
                    .skip
                    (.exit 6)))
                  (.seq
                   (.block 7
                    (.reg 22 (some [0, 0, 0, 0, 12, 0, 60, 126, 254, 511, 0, 0, 0, 0, 12288, 0, 61440, 129024, 260096, 523264, 1023, 2097151]) [0, 1, 2, 3, 4, 11, 12, 17, 18, 19, 20] [
                      ⟨(some 91), none, (.mv (.t 18))⟩,
                      ⟨(some 92), none, (.mv (.t 2))⟩,
                      ⟨(some 93), none, (.mv (.t 20))⟩,
                      ⟨(some 94), none, (.mv (.t 1))⟩,
                      ⟨(some 95), none, (.bin .mul false (.t 93) (.t 94))⟩,
                      ⟨(some 96), none, (.mv (.t 17))⟩,
                      ⟨(some 97), none, (.bin .add false (.t 95) (.t 96))⟩,
                      ⟨(some 98), none, (.ixL 1 (.t 92) (.t 97))⟩,
                      ⟨(some 99), none, (.ld none (.t 98))⟩,
                      ⟨(some 100), none, (.bin .add false (.t 91) (.t 99))⟩,
                      ⟨(some 101), none, (.mv (.t 19))⟩,
                      ⟨(some 102), none, (.mv (.t 3))⟩,
                      ⟨(some 103), none, (.mv (.t 20))⟩,
                      ⟨(some 104), none, (.mv (.t 1))⟩,
                      ⟨(some 105), none, (.bin .mul false (.t 103) (.t 104))⟩,
                      ⟨(some 106), none, (.mv (.t 17))⟩,
                      ⟨(some 107), none, (.bin .add false (.t 105) (.t 106))⟩,
                      ⟨(some 108), none, (.ixL 1 (.t 102) (.t 107))⟩,
                      ⟨(some 109), none, (.ld none (.t 108))⟩,
                      ⟨(some 110), none, (.bin .add false (.t 101) (.t 109))⟩,
                      ⟨(some 18), none, (.mv (.t 100))⟩,
                      ⟨(some 19), none, (.mv (.t 110))⟩]))
                   (.reg 21 none [0, 1, 2, 3, 4, 11, 12, 17, 18, 19, 20] [
                     ⟨(some 89), none, (.mv (.t 20))⟩,
                     ⟨(some 90), none, (.bin .add false (.t 89) (.k (.v (.int .i64 1))))⟩,
                     ⟨(some 20), none, (.mv (.t 90))⟩]))))))
              (.seq
               (.reg 23 none [0, 1, 2, 3, 4, 11, 12, 17, 115] [
                 ⟨(some 111), none, (.mv (.t 18))⟩,
                 ⟨(some 112), none, (.mv (.t 19))⟩,
                 ⟨(some 113), none, (.mv (.t 4))⟩,
                 ⟨(some 114), none, (.call (.k (.clo 27 [])) [(.t 111), (.t 112), (.t 113)])⟩,
                 ⟨(some 115), none, (.un .not (.t 114))⟩])
               (.cond (.t 115)
                (.seq
                 (.reg 24 none [10] [
                   ⟨(some 10), none, (.mv (.k (.v (.bool false))))⟩])
                 .ret)
                .skip)))))
           (.reg 17 none [0, 1, 2, 3, 4, 11, 12, 17] [
             ⟨(some 84), none, (.mv (.t 17))⟩,
             ⟨(some 85), none, (.bin .add false (.t 84) (.k (.v (.int .i64 1))))⟩,
             ⟨(some 17), none, (.mv (.t 85))⟩]))))))
      (.seq
       (.reg 25 none [10] [
         ⟨(some 116), none, (.mv (.t 12))⟩,
         ⟨(some 117), none, (.mv (.t 11))⟩,
         ⟨(some 118), none, (.mv (.t 4))⟩,
         ⟨(some 119), none, (.call (.k (.clo 27 [])) [(.t 116), (.t 117), (.t 118)])⟩,
         ⟨(some 10), none, (.mv (.t 119))⟩])
       .ret)))))
theorem fn25 : FnIR Try.prog 25 120 [(0, [0, 1, 2, 3, 4]), (1, [0, 1, 2, 3, 4, 11, 12]), (2, [0, 1, 2, 3, 4, 11, 12, 13]), (3, [0, 1, 2, 3, 4, 11, 12, 13, 23]), (4, [0, 1, 2, 3, 4, 11, 12, 13]), (5, [0, 1, 2, 3, 4, 11, 12, 13, 14, 15]), (6, [0, 1, 2, 3, 4, 11, 12, 13, 14, 15, 16]), (7, [0, 1, 2, 3, 4, 11, 12, 13, 14, 15, 16, 28]), (8, [0, 1, 2, 3, 4, 11, 12, 13, 14, 15, 16]), (9, [0, 1, 2, 3, 4, 11, 12, 13, 14, 15, 16, 49]), (10, [10]), (11, [0, 1, 2, 3, 4, 11, 12, 13, 14, 15, 16]), (12, [0, 1, 2, 3, 4, 11, 12, 13, 14, 15, 74]), (13, [10]), (14, [0, 1, 2, 3, 4, 11, 12, 13]), (15, [0, 1, 2, 3, 4, 11, 12, 17]), (16, [0, 1, 2, 3, 4, 11, 12, 17, 83]), (17, [0, 1, 2, 3, 4, 11, 12, 17]), (18, [0, 1, 2, 3, 4, 11, 12, 17, 18, 19]), (19, [0, 1, 2, 3, 4, 11, 12, 17, 18, 19, 20]), (20, [0, 1, 2, 3, 4, 11, 12, 17, 18, 19, 20, 88]), (21, [0, 1, 2, 3, 4, 11, 12, 17, 18, 19, 20]), (22, [0, 1, 2, 3, 4, 11, 12, 17, 18, 19, 20]), (23, [0, 1, 2, 3, 4, 11, 12, 17, 115]), (24, [10]), (25, [10])] ir25 [(.tmp 10)] :=
  ⟨Try.f25, _, Try.func25, rfl, by kernel_rfl, rfl, by kernel_rfl, by kernel_rfl⟩

/-- dataenclave/dataenclaveref34.numbers -/
def ir26 : RC :=
  (.seq
   (.reg 0 none [0, 1] [
     ⟨(some 4), none, (.mv (.k (.v (.int .i64 0))))⟩])
   (.seq
    (.seq
     (.reg 1 none [1, 7, 8, 9] [
       ⟨(some 7), none, (.mv (.t 0))⟩,
       ⟨(some 8), none, (.lenL (.t 7))⟩,
       ⟨(some 9), none, (.mv (.k (.v (.int .i64 0))))⟩])
     (.block 0
      (.loop
       (.seq
        (.reg 2 none [1, 7, 8, 9, 10] [
          ⟨(some 10), none, (.bin .lss false (.t 9) (.t 8))⟩])
        (.seq
         (.cond (.t 10)
          .skip
          (.exit 0))
         (.seq
          (.block 1
           (.seq
            (.reg 3 none [1, 6, 7, 8, 9] [
              ⟨(some 11), none, (.ixL 1 (.t 7) (.t 9))⟩,
              ⟨(some 12), none, (.ld none (.t 11))⟩,
              ⟨(some 6), none, (.mv (.t 12))⟩])
            (.seq
             (.reg 4 none [1, 7, 8, 9, 18] [
               ⟨(some 13), none, (.mv (.t 6))⟩,
               ⟨(some 14), none, (.bin .lss false (.t 13) (.k (.v (.int .i64 0))))⟩,
               ⟨(some 15), none, (.mv (.t 14))⟩,
               ⟨(some 16), (some (15, false)), (.mv (.t 6))⟩,
               ⟨(some 17), (some (15, false)), (.bin .gtr false (.t 16) (.k (.v (.int .i64 1000000))))⟩,
               ⟨(some 18), none, (.pick (.t 15) (.k (.v (.bool true))) (.t 17))⟩])
             (.cond (.t 18)
              (.seq
               (.reg 5 none [4] [
                 ⟨(some 4), none, (.mv (.k (.v (.int .i64 2))))⟩])
               .ret)
              .skip))))
          (.reg 6 none [1, 7, 8, 9] [
            ⟨(some 19), none, (.bin .add false (.t 9) (.k (.v (.int .i64 1))))⟩,
            ⟨(some 9), none, (.mv (.t 19))⟩])))))))
    (.seq
     (.seq
      (.reg 7 none [25] [
        ⟨(some 20), none, (.mv (.t 1))⟩,
        ⟨(some 21), none, (.bin .lss false (.t 20) (.k (.v (.int .i64 1))))⟩,
        ⟨(some 22), none, (.mv (.t 21))⟩,
        ⟨(some 23), (some (22, false)), (.mv (.t 1))⟩,
        ⟨(some 24), (some (22, false)), (.bin .gtr false (.t 23) (.k (.v (.int .i64 20))))⟩,
        ⟨(some 25), none, (.pick (.t 22) (.k (.v (.bool true))) (.t 24))⟩])
      (.cond (.t 25)
       (.seq
        (.reg 8 none [4] [
          ⟨(some 4), none, (.mv (.k (.v (.int .i64 2))))⟩])
        .ret)
       .skip))
     (.seq
      (.reg 9 none [4] [
        ⟨(some 4), none, (.mv (.k (.v (.int .i64 0))))⟩])
      .ret))))
theorem fn26 : FnIR Try.prog 26 26 [(0, [0, 1]), (1, [1, 7, 8, 9]), (2, [1, 7, 8, 9, 10]), (3, [1, 6, 7, 8, 9]), (4, [1, 7, 8, 9, 18]), (5, [4]), (6, [1, 7, 8, 9]), (7, [25]), (8, [4]), (9, [4])] ir26 [(.tmp 4)] :=
  ⟨Try.f26, _, Try.func26, rfl, by kernel_rfl, rfl, by kernel_rfl, by kernel_rfl⟩

/-- dataenclave/dataenclaveref34.near -/
def ir27 : RC :=
  (.seq
   (.reg 0 none [0, 1, 2] [
     ⟨(some 6), none, (.mv (.k (.v (.bool false))))⟩])
   (.seq
    (.reg 1 none [6] [
      ⟨(some 7), none, (.mv (.t 1))⟩,
      ⟨(some 8), none, (.mv (.t 2))⟩,
      ⟨(some 9), none, (.bin .rem false (.t 7) (.t 8))⟩,
      ⟨(some 10), none, (.bin .eql false (.t 9) (.k (.v (.int .i64 0))))⟩,
      ⟨(some 11), none, (.mv (.t 10))⟩,
      ⟨(some 12), (some (11, true)), (.mv (.t 1))⟩,
      ⟨(some 13), (some (11, true)), (.mv (.t 0))⟩,
      ⟨(some 14), (some (11, true)), (.mv (.t 2))⟩,
      ⟨(some 15), (some (11, true)), (.bin .sub false (.t 13) (.t 14))⟩,
      ⟨(some 16), (some (11, true)), (.bin .gtr false (.t 12) (.t 15))⟩,
      ⟨(some 17), none, (.pick (.t 11) (.t 16) (.k (.v (.bool false))))⟩,
      ⟨(some 18), none, (.mv (.t 17))⟩,
      ⟨(some 19), (some (18, true)), (.mv (.t 1))⟩,
      ⟨(some 20), (some (18, true)), (.mv (.t 0))⟩,
      ⟨(some 21), (some (18, true)), (.mv (.t 2))⟩,
      ⟨(some 22), (some (18, true)), (.bin .add false (.t 20) (.t 21))⟩,
      ⟨(some 23), (some (18, true)), (.bin .lss false (.t 19) (.t 22))⟩,
      ⟨(some 24), none, (.pick (.t 18) (.t 23) (.k (.v (.bool false))))⟩,
      ⟨(some 6), none, (.mv (.t 24))⟩])
    .ret))
theorem fn27 : FnIR Try.prog 27 25 [(0, [0, 1, 2]), (1, [6])] ir27 [(.tmp 6)] :=
  ⟨Try.f27, _, Try.func27, rfl, by kernel_rfl, rfl, by kernel_rfl, by kernel_rfl⟩

/-- dataenclave/rounding.right -/
def ir28 : RC :=
  (.seq
   (.reg 0 none [0, 1] [
     ⟨(some 4), none, (.mv (.k (.v (.bool false))))⟩])
   (.seq
    (.reg 1 none [4] [
      ⟨(some 5), none, (.mv (.t 1))⟩,
      ⟨(some 6), none, (.bin .geq false (.t 5) (.k (.v (.int .i64 1))))⟩,
      ⟨(some 7), none, (.mv (.t 6))⟩,
      ⟨(some 8), (some (7, true)), (.mv (.t 1))⟩,
      ⟨(some 9), (some (7, true)), (.bin .leq false (.t 8) (.k (.v (.int .i64 20))))⟩,
      ⟨(some 10), none, (.pick (.t 7) (.t 9) (.k (.v (.bool false))))⟩,
      ⟨(some 11), none, (.mv (.t 10))⟩,
      ⟨(some 12), (some (11, true)), (.mv (.t 0))⟩,
      ⟨(some 13), (some (11, true)), (.call (.k (.clo 31 [])) [(.t 12), (.k (.clo 32 []))])⟩,
      ⟨(some 14), (some (11, true)), (.un .not (.t 13))⟩,
      ⟨(some 15), none, (.pick (.t 11) (.t 14) (.k (.v (.bool false))))⟩,
      ⟨(some 4), none, (.mv (.t 15))⟩])
    .ret))
theorem fn28 : FnIR Try.prog 28 16 [(0, [0, 1]), (1, [4])] ir28 [(.tmp 4)] :=
  ⟨Try.f28, _, Try.func28, rfl, by kernel_rfl, rfl, by kernel_rfl, by kernel_rfl⟩

/-- dataenclave/rounding.choices -/
def ir29 : RC :=
  (.seq
   (.reg 0 none [0, 1] [
     ⟨(some 4), none, (.mv (.k (.v (.slice none 0 0))))⟩])
   (.seq
    (.reg 1 none [0, 1, 5] [
      ⟨(some 6), none, (.mv (.t 0))⟩,
      ⟨(some 7), none, (.mv (.t 0))⟩,
      ⟨(some 8), none, (.mv (.t 1))⟩,
      ⟨(some 9), none, (.bin .rem false (.t 7) (.t 8))⟩,
      ⟨(some 10), none, (.bin .sub false (.t 6) (.t 9))⟩,
      ⟨(some 5), none, (.mv (.t 10))⟩])
    (.seq
     (.seq
      (.reg 2 none [0, 1, 5, 13] [
        ⟨(some 11), none, (.mv (.t 5))⟩,
        ⟨(some 12), none, (.mv (.t 0))⟩,
        ⟨(some 13), none, (.bin .eql false (.t 11) (.t 12))⟩])
      (.cond (.t 13)
       (.seq
        (.reg 3 none [4] [
          ⟨(some 14), none, (.mv (.t 0))⟩,
          ⟨(some 15), none, (.bsl 1 1 [(.t 14)])⟩,
          ⟨(some 4), none, (.mv (.t 15))⟩])
        .ret)
       .skip))
     (.seq
      (.reg 4 none [4] [
        ⟨(some 16), none, (.mv (.t 5))⟩,
        ⟨(some 17), none, (.mv (.t 5))⟩,
        ⟨(some 18), none, (.mv (.t 1))⟩,
        ⟨(some 19), none, (.bin .add false (.t 17) (.t 18))⟩,
        ⟨(some 20), none, (.bsl 1 2 [(.t 16), (.t 19)])⟩,
        ⟨(some 4), none, (.mv (.t 20))⟩])
      .ret))))
theorem fn29 : FnIR Try.prog 29 21 [(0, [0, 1]), (1, [0, 1, 5]), (2, [0, 1, 5, 13]), (3, [4]), (4, [4])] ir29 [(.tmp 4)] :=
  ⟨Try.f29, _, Try.func29, rfl, by kernel_rfl, rfl, by kernel_rfl, by kernel_rfl⟩

/-- dataenclave/rounding.near -/
def ir30 : RC :=
  (.seq
   (.reg 0 none [0, 1, 2] [
     ⟨(some 6), none, (.mv (.k (.v (.bool false))))⟩])
   (.seq
    (.reg 1 none [6] [
      ⟨(some 7), none, (.mv (.t 1))⟩,
      ⟨(some 8), none, (.mv (.t 0))⟩,
      ⟨(some 9), none, (.mv (.t 2))⟩,
      ⟨(some 10), none, (.bin .sub false (.t 8) (.t 9))⟩,
      ⟨(some 11), none, (.bin .gtr false (.t 7) (.t 10))⟩,
      ⟨(some 12), none, (.mv (.t 11))⟩,
      ⟨(some 13), (some (12, true)), (.mv (.t 1))⟩,
      ⟨(some 14), (some (12, true)), (.mv (.t 0))⟩,
      ⟨(some 15), (some (12, true)), (.mv (.t 2))⟩,
      ⟨(some 16), (some (12, true)), (.bin .add false (.t 14) (.t 15))⟩,
      ⟨(some 17), (some (12, true)), (.bin .lss false (.t 13) (.t 16))⟩,
      ⟨(some 18), none, (.pick (.t 12) (.t 17) (.k (.v (.bool false))))⟩,
      ⟨(some 19), none, (.mv (.t 18))⟩,
      ⟨(some 20), (some (19, true)), (.mv (.t 1))⟩,
      ⟨(some 21), (some (19, true)), (.mv (.t 2))⟩,
      ⟨(some 22), (some (19, true)), (.bin .rem false (.t 20) (.t 21))⟩,
      ⟨(some 23), (some (19, true)), (.bin .eql false (.t 22) (.k (.v (.int .i64 0))))⟩,
      ⟨(some 24), none, (.pick (.t 19) (.t 23) (.k (.v (.bool false))))⟩,
      ⟨(some 6), none, (.mv (.t 24))⟩])
    .ret))
theorem fn30 : FnIR Try.prog 30 25 [(0, [0, 1, 2]), (1, [6])] ir30 [(.tmp 6)] :=
  ⟨Try.f30, _, Try.func30, rfl, by kernel_rfl, rfl, by kernel_rfl, by kernel_rfl⟩

/-- slices.ContainsFunc[[]int,int] -/
def ir31 : RC :=
  (.seq
   (.reg 0 none [0, 1] [
     ⟨(some 4), none, (.mv (.k (.v (.bool false))))⟩])
   (.seq
    (.reg 1 none [4] [
      ⟨(some 5), none, (.mv (.t 0))⟩,
      ⟨(some 6), none, (.mv (.t 1))⟩,
      ⟨(some 7), none, (.call (.k (.clo 33 [])) [(.t 5), (.t 6)])⟩,
      ⟨(some 8), none, (.bin .geq false (.t 7) (.k (.v (.int .i64 0))))⟩,
      ⟨(some 4), none, (.mv (.t 8))⟩])
    .ret))
theorem fn31 : FnIR Try.prog 31 9 [(0, [0, 1]), (1, [4])] ir31 [(.tmp 4)] :=
  ⟨Try.f31, _, Try.func31, rfl, by kernel_rfl, rfl, by kernel_rfl, by kernel_rfl⟩

/-- dataenclave/rounding.right$1 -/
def ir32 : RC :=
  (.seq
   (.reg 0 none [0] [
     ⟨(some 2), none, (.mv (.k (.v (.bool false))))⟩])
   (.seq
    (.reg 1 none [2] [
      ⟨(some 3), none, (.mv (.t 0))⟩,
      ⟨(some 4), none, (.bin .lss false (.t 3) (.k (.v (.int .i64 0))))⟩,
      ⟨(some 5), none, (.mv (.t 4))⟩,
      ⟨(some 6), (some (5, false)), (.mv (.t 0))⟩,
      ⟨(some 7), (some (5, false)), (.bin .gtr false (.t 6) (.k (.v (.int .i64 1000000))))⟩,
      ⟨(some 8), none, (.pick (.t 5) (.k (.v (.bool true))) (.t 7))⟩,
      ⟨(some 2), none, (.mv (.t 8))⟩])
    .ret))
theorem fn32 : FnIR Try.prog 32 9 [(0, [0]), (1, [2])] ir32 [(.tmp 2)] :=
  ⟨Try.f32, _, Try.func32, rfl, by kernel_rfl, rfl, by kernel_rfl, by kernel_rfl⟩

/-- slices.IndexFunc[[]int,int] -/
def ir33 : RC :=
  (.seq
   (.reg 0 none [0, 1] [
     ⟨(some 4), none, (.mv (.k (.v (.int .i64 0))))⟩])
   (.seq
    (.seq
     (.reg 1 none [0, 1, 7, 8] [
       ⟨(some 6), none, (.mv (.t 0))⟩,
       ⟨(some 7), none, (.lenL (.t 6))⟩,
       ⟨(some 8), none, (.mv (.k (.v (.int .i64 0))))⟩])
     (.block 0
      (.loop
       (.seq
        (.reg 2 none [0, 1, 7, 8, 9] [
          ⟨(some 9), none, (.bin .lss false (.t 8) (.t 7))⟩])
        (.seq
         (.cond (.t 9)
          .skip
          (.exit 0))
         (.seq
          (.block 1
           (.seq
            (.reg 3 none [0, 1, 5, 7, 8] [
              ⟨(some 10), none, (.mv (.t 8))⟩,
              ⟨(some 5), none, (.mv (.t 10))⟩])
            (.seq
             (.reg 4 none [0, 1, 5, 7, 8, 16] [
               ⟨(some 11), none, (.mv (.t 1))⟩,
               ⟨(some 12), none, (.mv (.t 0))⟩,
               ⟨(some 13), none, (.mv (.t 5))⟩,
               ⟨(some 14), none, (.ixL 1 (.t 12) (.t 13))⟩,
               ⟨(some 15), none, (.ld none (.t 14))⟩,
               ⟨(some 16), none, (.call (.t 11) [(.t 15)])⟩])
             (.cond (.t 16)
              (.seq
               (.reg 5 none [4] [
                 ⟨(some 17), none, (.mv (.t 5))⟩,
                 ⟨(some 4), none, (.mv (.t 17))⟩])
               .ret)
              .skip))))
          (.reg 6 none [0, 1, 7, 8] [
            ⟨(some 18), none, (.bin .add false (.t 8) (.k (.v (.int .i64 1))))⟩,
            ⟨(some 8), none, (.mv (.t 18))⟩])))))))
    (.seq
     (.reg 7 none [4] [
       ⟨(some 4), none, (.mv (.k (.v (.int .i64 (-1)))))⟩])
     .ret)))
theorem fn33 : FnIR Try.prog 33 19 [(0, [0, 1]), (1, [0, 1, 7, 8]), (2, [0, 1, 7, 8, 9]), (3, [0, 1, 5, 7, 8]), (4, [0, 1, 5, 7, 8, 16]), (5, [4]), (6, [0, 1, 7, 8]), (7, [4])] ir33 [(.tmp 4)] :=
  ⟨Try.f33, _, Try.func33, rfl, by kernel_rfl, rfl, by kernel_rfl, by kernel_rfl⟩

end Go.Proofs

