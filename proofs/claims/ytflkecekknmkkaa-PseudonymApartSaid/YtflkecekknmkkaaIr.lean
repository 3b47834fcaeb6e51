import Derived.Test.YtflkecekknmkkaaChecked
import Derived.Test.YtflkecekknmkkaaZzU
namespace Go.Proofs
open Go.TL
/-- dataenclave/dataenclavelaw12.PseudonymBack -/
def ir3 : RC :=
  (.seq
   (.reg 0 none [0, 1] [
     ⟨(some 4), none, (.mv (.k (.v (.bool false))))⟩])
   (.seq
    (.reg 1 none [5, 6] [
      ⟨(some 9), none, (.mv (.t 0))⟩,
      ⟨(some 10), none, (.call (.k (.clo 8 [])) [(.t 9)])⟩,
      ⟨(some 11), none, (.mv (.t 1))⟩,
      ⟨(some 12), none, (.bin .rem false (.t 11) (.k (.v (.int .u32 1048576))))⟩,
      ⟨(some 13), none, (.cvI .i64 (.t 12))⟩,
      ⟨(some 5), none, (.mv (.t 10))⟩,
      ⟨(some 6), none, (.mv (.t 13))⟩])
    (.seq
     (.reg 2 none [5, 6, 7, 8] [
       ⟨(some 14), none, (.mv (.t 5))⟩,
       ⟨(some 15), none, (.mv (.t 6))⟩,
       ⟨(some 16), none, (.call (.k (.clo 9 [])) [(.t 14), (.t 15)])⟩,
       ⟨(some 17), none, (.mv (.t 5))⟩,
       ⟨(some 18), none, (.mv (.t 6))⟩,
       ⟨(some 19), none, (.call (.k (.clo 10 [])) [(.t 17), (.t 18)])⟩,
       ⟨(some 7), none, (.mv (.t 16))⟩,
       ⟨(some 8), none, (.mv (.t 19))⟩])
     (.seq
      (.reg 3 none [4] [
        ⟨(some 20), none, (.mv (.t 7))⟩,
        ⟨(some 21), none, (.bin .geq false (.t 20) (.k (.v (.int .i64 0))))⟩,
        ⟨(some 22), none, (.mv (.t 21))⟩,
        ⟨(some 23), (some (22, true)), (.mv (.t 7))⟩,
        ⟨(some 24), (some (22, true)), (.bin .lss false (.t 23) (.k (.v (.int .i64 1048576))))⟩,
        ⟨(some 25), none, (.pick (.t 22) (.t 24) (.k (.v (.bool false))))⟩,
        ⟨(some 26), none, (.mv (.t 25))⟩,
        ⟨(some 27), (some (26, true)), (.mv (.t 8))⟩,
        ⟨(some 28), (some (26, true)), (.bin .geq false (.t 27) (.k (.v (.int .i64 0))))⟩,
        ⟨(some 29), none, (.pick (.t 26) (.t 28) (.k (.v (.bool false))))⟩,
        ⟨(some 30), none, (.mv (.t 29))⟩,
        ⟨(some 31), (some (30, true)), (.mv (.t 8))⟩,
        ⟨(some 32), (some (30, true)), (.bin .lss false (.t 31) (.k (.v (.int .i64 1048576))))⟩,
        ⟨(some 33), none, (.pick (.t 30) (.t 32) (.k (.v (.bool false))))⟩,
        ⟨(some 34), none, (.mv (.t 33))⟩,
        ⟨(some 35), (some (34, true)), (.mv (.t 5))⟩,
        ⟨(some 36), (some (34, true)), (.mv (.t 7))⟩,
        ⟨(some 37), (some (34, true)), (.call (.k (.clo 10 [])) [(.t 35), (.t 36)])⟩,
        ⟨(some 38), (some (34, true)), (.mv (.t 6))⟩,
        ⟨(some 39), (some (34, true)), (.bin .eql false (.t 37) (.t 38))⟩,
        ⟨(some 40), none, (.pick (.t 34) (.t 39) (.k (.v (.bool false))))⟩,
        ⟨(some 41), none, (.mv (.t 40))⟩,
        ⟨(some 42), (some (41, true)), (.mv (.t 5))⟩,
        ⟨(some 43), (some (41, true)), (.mv (.t 8))⟩,
        ⟨(some 44), (some (41, true)), (.call (.k (.clo 9 [])) [(.t 42), (.t 43)])⟩,
        ⟨(some 45), (some (41, true)), (.mv (.t 6))⟩,
        ⟨(some 46), (some (41, true)), (.bin .eql false (.t 44) (.t 45))⟩,
        ⟨(some 47), none, (.pick (.t 41) (.t 46) (.k (.v (.bool false))))⟩,
        ⟨(some 48), none, (.mv (.t 47))⟩,
        ⟨(some 49), (some (48, true)), (.call (.k (.clo 11 [])) [])⟩,
        ⟨(some 50), none, (.pick (.t 48) (.t 49) (.k (.v (.bool false))))⟩,
        ⟨(some 4), none, (.mv (.t 50))⟩])
      .ret))))
theorem fn3 : FnIR Try.prog 3 51 [(0, [0, 1]), (1, [5, 6]), (2, [5, 6, 7, 8]), (3, [4])] ir3 [(.tmp 4)] :=
  ⟨Try.f3, _, Try.func3, rfl, by kernel_rfl, rfl, by kernel_rfl, by kernel_rfl⟩

/-- dataenclave/dataenclavelaw12.PseudonymApart -/
def ir4 : RC :=
  (.seq
   (.reg 0 none [0, 1, 2] [
     ⟨(some 6), none, (.mv (.k (.v (.bool false))))⟩])
   (.seq
    (.seq
     (.reg 1 none [0, 1, 2, 15] [
       ⟨(some 13), none, (.mv (.t 2))⟩,
       ⟨(some 14), none, (.lenL (.t 13))⟩,
       ⟨(some 15), none, (.bin .gtr false (.t 14) (.k (.v (.int .i64 100))))⟩])
     (.cond (.t 15)
      (.seq
       (.reg 2 none [6] [
         ⟨(some 16), none, (.call (.k (.clo 11 [])) [])⟩,
         ⟨(some 6), none, (.mv (.t 16))⟩])
       .ret)
      .skip))
    (.seq
     (.reg 3 none [2, 7, 8] [
       ⟨(some 17), none, (.mv (.t 0))⟩,
       ⟨(some 18), none, (.call (.k (.clo 8 [])) [(.t 17)])⟩,
       ⟨(some 19), none, (.mv (.t 1))⟩,
       ⟨(some 20), none, (.bin .rem false (.t 19) (.k (.v (.int .u32 524288))))⟩,
       ⟨(some 21), none, (.cvI .i64 (.t 20))⟩,
       ⟨(some 7), none, (.mv (.t 18))⟩,
       ⟨(some 8), none, (.mv (.t 21))⟩])
     (.seq
      (.reg 4 none [2, 7, 8, 9] [
        ⟨(some 9), none, (.mv (.k (.v (.slice none 0 0))))⟩])
      (.seq
       (.seq
        (.reg 5 none [7, 8, 9, 22, 23, 24] [
          ⟨(some 22), none, (.mv (.t 2))⟩,
          ⟨(some 23), none, (.lenL (.t 22))⟩,
          ⟨(some 24), none, (.mv (.k (.v (.int .i64 0))))⟩])
        (.block 0
         (.loop
          (.seq
           (.reg 6 none [7, 8, 9, 22, 23, 24, 25] [
             ⟨(some 25), none, (.bin .lss false (.t 24) (.t 23))⟩])
           (.seq
            (.cond (.t 25)
             .skip
             (.exit 0))
            (.seq
             (.block 1
              (.seq
               (.reg 7 none [7, 8, 9, 11, 22, 23, 24] [
                 ⟨(some 26), none, (.ixL 1 (.t 22) (.t 24))⟩,
                 ⟨(some 27), none, (.ld none (.t 26))⟩,
                 ⟨(some 11), none, (.mv (.t 27))⟩])
               (.seq
                (.reg 8 none [7, 8, 9, 22, 23, 24] [
                  ⟨(some 28), none, (.mv (.t 8))⟩,
                  ⟨(some 29), none, (.mv (.t 11))⟩,
                  ⟨(some 30), none, (.cvI .i64 (.t 29))⟩,
                  ⟨(some 31), none, (.bin .add false (.k (.v (.int .i64 1))) (.t 30))⟩,
                  ⟨(some 32), none, (.bin .add false (.t 28) (.t 31))⟩,
                  ⟨(some 8), none, (.mv (.t 32))⟩])
                (.seq
                 (.reg 9 none [7, 8, 9, 12, 22, 23, 24] [
                   ⟨(some 33), none, (.mv (.t 7))⟩,
                   ⟨(some 34), none, (.mv (.t 8))⟩,
                   ⟨(some 35), none, (.call (.k (.clo 9 [])) [(.t 33), (.t 34)])⟩,
                   ⟨(some 12), none, (.mv (.t 35))⟩])
                 (.seq
                  (.seq
                   (.reg 10 none [7, 8, 9, 12, 22, 23, 24, 38] [
                     ⟨(some 36), none, (.mv (.t 9))⟩,
                     ⟨(some 37), none, (.mv (.t 12))⟩,
                     ⟨(some 38), none, (.call (.k (.clo 12 [])) [(.t 36), (.t 37)])⟩])
                   (.cond (.t 38)
                    (.seq
                     (.reg 11 none [6] [
                       ⟨(some 6), none, (.mv (.k (.v (.bool false))))⟩])
                     .ret)
                    .skip))
                  (.reg 12 none [7, 8, 9, 22, 23, 24] [
                    ⟨(some 39), none, (.mv (.t 9))⟩,
                    ⟨(some 40), none, (.mv (.t 12))⟩,
                    ⟨(some 41), none, (.bsl 1 1 [(.t 40)])⟩,
                    ⟨(some 42), none, (.app 1 8 false (.t 39) (.t 41))⟩,
                    ⟨(some 9), none, (.mv (.t 42))⟩]))))))
             (.reg 13 none [7, 8, 9, 22, 23, 24] [
               ⟨(some 43), none, (.bin .add false (.t 24) (.k (.v (.int .i64 1))))⟩,
               ⟨(some 24), none, (.mv (.t 43))⟩])))))))
       (.seq
        (.reg 14 none [6] [
          ⟨(some 44), none, (.call (.k (.clo 11 [])) [])⟩,
          ⟨(some 6), none, (.mv (.t 44))⟩])
        .ret))))))
theorem fn4 : FnIR Try.prog 4 45 [(0, [0, 1, 2]), (1, [0, 1, 2, 15]), (2, [6]), (3, [2, 7, 8]), (4, [2, 7, 8, 9]), (5, [7, 8, 9, 22, 23, 24]), (6, [7, 8, 9, 22, 23, 24, 25]), (7, [7, 8, 9, 11, 22, 23, 24]), (8, [7, 8, 9, 22, 23, 24]), (9, [7, 8, 9, 12, 22, 23, 24]), (10, [7, 8, 9, 12, 22, 23, 24, 38]), (11, [6]), (12, [7, 8, 9, 22, 23, 24]), (13, [7, 8, 9, 22, 23, 24]), (14, [6])] ir4 [(.tmp 6)] :=
  ⟨Try.f4, _, Try.func4, rfl, by kernel_rfl, rfl, by kernel_rfl, by kernel_rfl⟩

/-- dataenclave/dataenclavelaw12.PseudonymWalks -/
def ir5 : RC :=
  (.seq
   (.reg 0 none [0, 1, 2] [
     ⟨(some 6), none, (.mv (.k (.v (.bool false))))⟩])
   (.seq
    (.reg 1 none [2, 7, 8] [
      ⟨(some 13), none, (.mv (.t 0))⟩,
      ⟨(some 14), none, (.call (.k (.clo 8 [])) [(.t 13)])⟩,
      ⟨(some 15), none, (.mv (.t 1))⟩,
      ⟨(some 16), none, (.bin .rem false (.t 15) (.k (.v (.int .u32 1048576))))⟩,
      ⟨(some 17), none, (.cvI .i64 (.t 16))⟩,
      ⟨(some 7), none, (.mv (.t 14))⟩,
      ⟨(some 8), none, (.mv (.t 17))⟩])
    (.seq
     (.reg 2 none [7, 8, 9] [
       ⟨(some 18), none, (.mv (.t 2))⟩,
       ⟨(some 19), none, (.cvI .i64 (.t 18))⟩,
       ⟨(some 20), none, (.bin .rem false (.t 19) (.k (.v (.int .i64 40))))⟩,
       ⟨(some 9), none, (.mv (.t 20))⟩])
     (.seq
      (.reg 3 none [7, 8, 9, 10] [
        ⟨(some 21), none, (.mv (.t 8))⟩,
        ⟨(some 10), none, (.mv (.t 21))⟩])
      (.seq
       (.seq
        (.reg 4 none [7, 8, 9, 10, 11] [
          ⟨(some 11), none, (.mv (.k (.v (.int .i64 0))))⟩])
        (.block 0
         (.loop
          (.seq
           (.seq
            (.reg 5 none [7, 8, 9, 10, 11, 24] [
              ⟨(some 22), none, (.mv (.t 11))⟩,
              ⟨(some 23), none, (.mv (.t 9))⟩,
              ⟨(some 24), none, (.bin .lss false (.t 22) (.t 23))⟩])
            (.cond (.t 24)
             .skip
             (.exit 0)))
           (.seq
            (.block 1
             (.reg 7 none [7, 8, 9, 10, 11] [
               ⟨(some 27), none, (.mv (.t 7))⟩,
               ⟨(some 28), none, (.mv (.t 10))⟩,
               ⟨(some 29), none, (.call (.k (.clo 9 [])) [(.t 27), (.t 28)])⟩,
               ⟨(some 10), none, (.mv (.t 29))⟩]))
            (.reg 6 none [7, 8, 9, 10, 11] [
              ⟨(some 25), none, (.mv (.t 11))⟩,
              ⟨(some 26), none, (.bin .add false (.t 25) (.k (.v (.int .i64 1))))⟩,
              ⟨(some 11), none, (.mv (.t 26))⟩]))))))
       (.seq
        (.seq
         (.reg 8 none [7, 8, 9, 10, 12] [
           ⟨(some 12), none, (.mv (.k (.v (.int .i64 0))))⟩])
         (.block 2
          (.loop
           (.seq
            (.seq
             (.reg 9 none [7, 8, 9, 10, 12, 32] [
               ⟨(some 30), none, (.mv (.t 12))⟩,
               ⟨(some 31), none, (.mv (.t 9))⟩,
               ⟨(some 32), none, (.bin .lss false (.t 30) (.t 31))⟩])
             (.cond (.t 32)
              .skip
              (.exit 2)))
            (.seq
             (.block 3
              (.reg 11 none [7, 8, 9, 10, 12] [
                ⟨(some 35), none, (.mv (.t 7))⟩,
                ⟨(some 36), none, (.mv (.t 10))⟩,
                ⟨(some 37), none, (.call (.k (.clo 10 [])) [(.t 35), (.t 36)])⟩,
                ⟨(some 10), none, (.mv (.t 37))⟩]))
             (.reg 10 none [7, 8, 9, 10, 12] [
               ⟨(some 33), none, (.mv (.t 12))⟩,
               ⟨(some 34), none, (.bin .add false (.t 33) (.k (.v (.int .i64 1))))⟩,
               ⟨(some 12), none, (.mv (.t 34))⟩]))))))
        (.seq
         (.reg 12 none [6] [
           ⟨(some 38), none, (.mv (.t 10))⟩,
           ⟨(some 39), none, (.mv (.t 8))⟩,
           ⟨(some 40), none, (.bin .eql false (.t 38) (.t 39))⟩,
           ⟨(some 41), none, (.mv (.t 40))⟩,
           ⟨(some 42), (some (41, true)), (.call (.k (.clo 11 [])) [])⟩,
           ⟨(some 43), none, (.pick (.t 41) (.t 42) (.k (.v (.bool false))))⟩,
           ⟨(some 6), none, (.mv (.t 43))⟩])
         .ret)))))))
theorem fn5 : FnIR Try.prog 5 44 [(0, [0, 1, 2]), (1, [2, 7, 8]), (2, [7, 8, 9]), (3, [7, 8, 9, 10]), (4, [7, 8, 9, 10, 11]), (5, [7, 8, 9, 10, 11, 24]), (6, [7, 8, 9, 10, 11]), (7, [7, 8, 9, 10, 11]), (8, [7, 8, 9, 10, 12]), (9, [7, 8, 9, 10, 12, 32]), (10, [7, 8, 9, 10, 12]), (11, [7, 8, 9, 10, 12]), (12, [6])] ir5 [(.tmp 6)] :=
  ⟨Try.f5, _, Try.func5, rfl, by kernel_rfl, rfl, by kernel_rfl, by kernel_rfl⟩

/-- dataenclave/dataenclavelaw12.PseudonymKeys -/
def ir6 : RC :=
  (.seq
   (.reg 0 none [0, 1, 2, 3, 4] [
     ⟨(some 10), none, (.mv (.k (.v (.bool false))))⟩])
   (.seq
    (.reg 1 none [0, 1, 3, 4, 11] [
      ⟨(some 14), none, (.mv (.t 2))⟩,
      ⟨(some 15), none, (.bin .rem false (.t 14) (.k (.v (.int .u32 1048576))))⟩,
      ⟨(some 16), none, (.cvI .i64 (.t 15))⟩,
      ⟨(some 11), none, (.mv (.t 16))⟩])
    (.seq
     (.seq
      (.reg 2 none [1, 3, 4, 11, 20, 21, 22] [
        ⟨(some 17), none, (.mv (.t 0))⟩,
        ⟨(some 18), none, (.mv (.t 0))⟩,
        ⟨(some 19), none, (.call (.k (.clo 8 [])) [(.t 18)])⟩,
        ⟨(some 20), none, (.bsl 1 6 [(.t 17), (.t 19), (.k (.v (.int .i64 0))), (.k (.v (.int .i64 1152921504606846975))), (.k (.v (.int .i64 1152921504606846976))), (.k (.v (.int .i64 (-1))))])⟩,
        ⟨(some 21), none, (.lenL (.t 20))⟩,
        ⟨(some 22), none, (.mv (.k (.v (.int .i64 0))))⟩])
      (.block 0
       (.loop
        (.seq
         (.reg 3 none [1, 3, 4, 11, 20, 21, 22, 23] [
           ⟨(some 23), none, (.bin .lss false (.t 22) (.t 21))⟩])
         (.seq
          (.cond (.t 23)
           .skip
           (.exit 0))
          (.seq
           (.block 1
            (.seq
             (.reg 4 none [1, 3, 4, 11, 13, 20, 21, 22] [
               ⟨(some 24), none, (.ixL 1 (.t 20) (.t 22))⟩,
               ⟨(some 25), none, (.ld none (.t 24))⟩,
               ⟨(some 13), none, (.mv (.t 25))⟩])
             (.seq
              (.reg 5 none [1, 3, 4, 11, 20, 21, 22, 87] [
                ⟨(some 26), none, (.mv (.t 13))⟩,
                ⟨(some 27), none, (.mv (.t 11))⟩,
                ⟨(some 28), none, (.call (.k (.clo 9 [])) [(.t 26), (.t 27)])⟩,
                ⟨(some 29), none, (.mv (.t 13))⟩,
                ⟨(some 30), none, (.mv (.t 11))⟩,
                ⟨(some 31), none, (.call (.k (.clo 13 [])) [(.t 29), (.t 30)])⟩,
                ⟨(some 32), none, (.bin .neq false (.t 28) (.t 31))⟩,
                ⟨(some 33), none, (.mv (.t 32))⟩,
                ⟨(some 34), (some (33, false)), (.mv (.t 13))⟩,
                ⟨(some 35), (some (33, false)), (.mv (.t 11))⟩,
                ⟨(some 36), (some (33, false)), (.call (.k (.clo 10 [])) [(.t 34), (.t 35)])⟩,
                ⟨(some 37), (some (33, false)), (.mv (.t 13))⟩,
                ⟨(some 38), (some (33, false)), (.mv (.t 11))⟩,
                ⟨(some 39), (some (33, false)), (.call (.k (.clo 14 [])) [(.t 37), (.t 38)])⟩,
                ⟨(some 40), (some (33, false)), (.bin .neq false (.t 36) (.t 39))⟩,
                ⟨(some 41), none, (.pick (.t 33) (.k (.v (.bool true))) (.t 40))⟩,
                ⟨(some 42), none, (.mv (.t 41))⟩,
                ⟨(some 43), (some (42, false)), (.mv (.t 13))⟩,
                ⟨(some 44), (some (42, false)), (.mv (.t 1))⟩,
                ⟨(some 45), (some (42, false)), (.call (.k (.clo 9 [])) [(.t 43), (.t 44)])⟩,
                ⟨(some 46), (some (42, false)), (.mv (.t 13))⟩,
                ⟨(some 47), (some (42, false)), (.mv (.t 1))⟩,
                ⟨(some 48), (some (42, false)), (.call (.k (.clo 13 [])) [(.t 46), (.t 47)])⟩,
                ⟨(some 49), (some (42, false)), (.bin .neq false (.t 45) (.t 48))⟩,
                ⟨(some 50), none, (.pick (.t 42) (.k (.v (.bool true))) (.t 49))⟩,
                ⟨(some 51), none, (.mv (.t 50))⟩,
                ⟨(some 52), (some (51, false)), (.mv (.t 13))⟩,
                ⟨(some 53), (some (51, false)), (.mv (.t 1))⟩,
                ⟨(some 54), (some (51, false)), (.call (.k (.clo 10 [])) [(.t 52), (.t 53)])⟩,
                ⟨(some 55), (some (51, false)), (.mv (.t 13))⟩,
                ⟨(some 56), (some (51, false)), (.mv (.t 1))⟩,
                ⟨(some 57), (some (51, false)), (.call (.k (.clo 14 [])) [(.t 55), (.t 56)])⟩,
                ⟨(some 58), (some (51, false)), (.bin .neq false (.t 54) (.t 57))⟩,
                ⟨(some 59), none, (.pick (.t 51) (.k (.v (.bool true))) (.t 58))⟩,
                ⟨(some 60), none, (.mv (.t 59))⟩,
                ⟨(some 61), (some (60, false)), (.mv (.t 13))⟩,
                ⟨(some 62), (some (60, false)), (.mv (.t 3))⟩,
                ⟨(some 63), (some (60, false)), (.mv (.t 4))⟩,
                ⟨(some 64), (some (60, false)), (.call (.k (.clo 15 [])) [(.t 61), (.t 62), (.t 63)])⟩,
                ⟨(some 65), (some (60, false)), (.mv (.t 13))⟩,
                ⟨(some 66), (some (60, false)), (.mv (.t 3))⟩,
                ⟨(some 67), (some (60, false)), (.mv (.t 4))⟩,
                ⟨(some 68), (some (60, false)), (.call (.k (.clo 16 [])) [(.t 65), (.t 66), (.t 67)])⟩,
                ⟨(some 69), (some (60, false)), (.bin .neq false (.t 64) (.t 68))⟩,
                ⟨(some 70), none, (.pick (.t 60) (.k (.v (.bool true))) (.t 69))⟩,
                ⟨(some 71), none, (.mv (.t 70))⟩,
                ⟨(some 72), (some (71, false)), (.mv (.t 13))⟩,
                ⟨(some 73), (some (71, false)), (.mv (.t 11))⟩,
                ⟨(some 74), (some (71, false)), (.bin .rem false (.t 73) (.k (.v (.int .i64 8))))⟩,
                ⟨(some 75), (some (71, false)), (.mv (.t 11))⟩,
                ⟨(some 76), (some (71, false)), (.bin .quo false (.t 75) (.k (.v (.int .i64 8))))⟩,
                ⟨(some 77), (some (71, false)), (.bin .rem false (.t 76) (.k (.v (.int .i64 1024))))⟩,
                ⟨(some 78), (some (71, false)), (.call (.k (.clo 15 [])) [(.t 72), (.t 74), (.t 77)])⟩,
                ⟨(some 79), (some (71, false)), (.mv (.t 13))⟩,
                ⟨(some 80), (some (71, false)), (.mv (.t 11))⟩,
                ⟨(some 81), (some (71, false)), (.bin .rem false (.t 80) (.k (.v (.int .i64 8))))⟩,
                ⟨(some 82), (some (71, false)), (.mv (.t 11))⟩,
                ⟨(some 83), (some (71, false)), (.bin .quo false (.t 82) (.k (.v (.int .i64 8))))⟩,
                ⟨(some 84), (some (71, false)), (.bin .rem false (.t 83) (.k (.v (.int .i64 1024))))⟩,
                ⟨(some 85), (some (71, false)), (.call (.k (.clo 16 [])) [(.t 79), (.t 81), (.t 84)])⟩,
                ⟨(some 86), (some (71, false)), (.bin .neq false (.t 78) (.t 85))⟩,
                ⟨(some 87), none, (.pick (.t 71) (.k (.v (.bool true))) (.t 86))⟩])
              (.cond (.t 87)
               (.seq
                (.reg 6 none [10] [
                  ⟨(some 10), none, (.mv (.k (.v (.bool false))))⟩])
                .ret)
               .skip))))
           (.reg 7 none [1, 3, 4, 11, 20, 21, 22] [
             ⟨(some 88), none, (.bin .add false (.t 22) (.k (.v (.int .i64 1))))⟩,
             ⟨(some 22), none, (.mv (.t 88))⟩])))))))
     (.seq
      (.reg 8 none [10] [
        ⟨(some 89), none, (.call (.k (.clo 11 [])) [])⟩,
        ⟨(some 10), none, (.mv (.t 89))⟩])
      .ret))))
theorem fn6 : FnIR Try.prog 6 90 [(0, [0, 1, 2, 3, 4]), (1, [0, 1, 3, 4, 11]), (2, [1, 3, 4, 11, 20, 21, 22]), (3, [1, 3, 4, 11, 20, 21, 22, 23]), (4, [1, 3, 4, 11, 13, 20, 21, 22]), (5, [1, 3, 4, 11, 20, 21, 22, 87]), (6, [10]), (7, [1, 3, 4, 11, 20, 21, 22]), (8, [10])] ir6 [(.tmp 10)] :=
  ⟨Try.f6, _, Try.func6, rfl, by kernel_rfl, rfl, by kernel_rfl, by kernel_rfl⟩

/-- dataenclave/dataenclavelaw12.PseudonymRounds -/
def ir7 : RC :=
  (.seq
   (.reg 0 none [0, 1] [
     ⟨(some 4), none, (.mv (.k (.v (.bool false))))⟩])
   (.seq
    (.reg 1 none [5, 6] [
      ⟨(some 11), none, (.mv (.t 0))⟩,
      ⟨(some 12), none, (.call (.k (.clo 8 [])) [(.t 11)])⟩,
      ⟨(some 13), none, (.mv (.t 1))⟩,
      ⟨(some 14), none, (.bin .rem false (.t 13) (.k (.v (.int .u32 1048576))))⟩,
      ⟨(some 15), none, (.cvI .i64 (.t 14))⟩,
      ⟨(some 5), none, (.mv (.t 12))⟩,
      ⟨(some 6), none, (.mv (.t 15))⟩])
    (.seq
     (.reg 2 none [5, 6, 7, 8] [
       ⟨(some 16), none, (.mv (.t 6))⟩,
       ⟨(some 17), none, (.bin .shr false (.t 16) (.k (.v (.int .u64 10))))⟩,
       ⟨(some 18), none, (.mv (.t 6))⟩,
       ⟨(some 19), none, (.bin .and false (.t 18) (.k (.v (.int .i64 1023))))⟩,
       ⟨(some 7), none, (.mv (.t 17))⟩,
       ⟨(some 8), none, (.mv (.t 19))⟩])
     (.seq
      (.seq
       (.reg 3 none [5, 6, 7, 8, 9] [
         ⟨(some 9), none, (.mv (.k (.v (.int .i64 0))))⟩])
       (.block 0
        (.loop
         (.seq
          (.seq
           (.reg 4 none [5, 6, 7, 8, 9, 21] [
             ⟨(some 20), none, (.mv (.t 9))⟩,
             ⟨(some 21), none, (.bin .lss false (.t 20) (.k (.v (.int .i64 8))))⟩])
           (.cond (.t 21)
            .skip
            (.exit 0)))
          (.seq
           (.block 1
            (.seq
             (.reg 6 none [5, 6, 7, 8, 9, 10] [
               ⟨(some 24), none, (.mv (.t 5))⟩,
               ⟨(some 25), none, (.mv (.t 9))⟩,
               ⟨(some 26), none, (.mv (.t 8))⟩,
               ⟨(some 27), none, (.call (.k (.clo 15 [])) [(.t 24), (.t 25), (.t 26)])⟩,
               ⟨(some 10), none, (.mv (.t 27))⟩])
             (.seq
              (.seq
               (.reg 7 none [5, 6, 7, 8, 9, 10, 33] [
                 ⟨(some 28), none, (.mv (.t 10))⟩,
                 ⟨(some 29), none, (.bin .lss false (.t 28) (.k (.v (.int .i64 0))))⟩,
                 ⟨(some 30), none, (.mv (.t 29))⟩,
                 ⟨(some 31), (some (30, false)), (.mv (.t 10))⟩,
                 ⟨(some 32), (some (30, false)), (.bin .gtr false (.t 31) (.k (.v (.int .i64 1023))))⟩,
                 ⟨(some 33), none, (.pick (.t 30) (.k (.v (.bool true))) (.t 32))⟩])
               (.cond (.t 33)
                (.seq
                 (.reg 8 none [4] [
                   ⟨(some 4), none, (.mv (.k (.v (.bool false))))⟩])
                 .ret)
                .skip))
              (.reg 9 none [5, 6, 7, 8, 9] [
                ⟨(some 34), none, (.mv (.t 8))⟩,
                ⟨(some 35), none, (.mv (.t 7))⟩,
                ⟨(some 36), none, (.mv (.t 10))⟩,
                ⟨(some 37), none, (.bin .xor false (.t 35) (.t 36))⟩,
                ⟨(some 7), none, (.mv (.t 34))⟩,
                ⟨(some 8), none, (.mv (.t 37))⟩]))))
           (.reg 5 none [5, 6, 7, 8, 9] [
             ⟨(some 22), none, (.mv (.t 9))⟩,
             ⟨(some 23), none, (.bin .add false (.t 22) (.k (.v (.int .i64 1))))⟩,
             ⟨(some 9), none, (.mv (.t 23))⟩]))))))
      (.seq
       (.reg 10 none [4] [
         ⟨(some 38), none, (.mv (.t 5))⟩,
         ⟨(some 39), none, (.mv (.t 6))⟩,
         ⟨(some 40), none, (.call (.k (.clo 9 [])) [(.t 38), (.t 39)])⟩,
         ⟨(some 41), none, (.mv (.t 7))⟩,
         ⟨(some 42), none, (.bin .shl false (.t 41) (.k (.v (.int .u64 10))))⟩,
         ⟨(some 43), none, (.mv (.t 8))⟩,
         ⟨(some 44), none, (.bin .or false (.t 42) (.t 43))⟩,
         ⟨(some 45), none, (.bin .eql false (.t 40) (.t 44))⟩,
         ⟨(some 46), none, (.mv (.t 45))⟩,
         ⟨(some 47), (some (46, true)), (.call (.k (.clo 11 [])) [])⟩,
         ⟨(some 48), none, (.pick (.t 46) (.t 47) (.k (.v (.bool false))))⟩,
         ⟨(some 4), none, (.mv (.t 48))⟩])
       .ret)))))
theorem fn7 : FnIR Try.prog 7 49 [(0, [0, 1]), (1, [5, 6]), (2, [5, 6, 7, 8]), (3, [5, 6, 7, 8, 9]), (4, [5, 6, 7, 8, 9, 21]), (5, [5, 6, 7, 8, 9]), (6, [5, 6, 7, 8, 9, 10]), (7, [5, 6, 7, 8, 9, 10, 33]), (8, [4]), (9, [5, 6, 7, 8, 9]), (10, [4])] ir7 [(.tmp 4)] :=
  ⟨Try.f7, _, Try.func7, rfl, by kernel_rfl, rfl, by kernel_rfl, by kernel_rfl⟩

/-- dataenclave/dataenclavelaw12.secret -/
def ir8 : RC :=
  (.seq
   (.reg 0 none [0] [
     ⟨(some 2), none, (.mv (.k (.v (.int .i64 0))))⟩])
   (.seq
    (.reg 1 none [2] [
      ⟨(some 3), none, (.mv (.t 0))⟩,
      ⟨(some 4), none, (.cvI .u64 (.t 3))⟩,
      ⟨(some 5), none, (.bin .shr false (.t 4) (.k (.v (.int .u64 4))))⟩,
      ⟨(some 6), none, (.cvI .i64 (.t 5))⟩,
      ⟨(some 2), none, (.mv (.t 6))⟩])
    .ret))
theorem fn8 : FnIR Try.prog 8 7 [(0, [0]), (1, [2])] ir8 [(.tmp 2)] :=
  ⟨Try.f8, _, Try.func8, rfl, by kernel_rfl, rfl, by kernel_rfl, by kernel_rfl⟩

/-- dataenclave/pseudonym.Key -/
def ir9 : RC :=
  (.seq
   (.reg 0 none [0, 1] [
     ⟨(some 4), none, (.mv (.k (.v (.int .i64 0))))⟩])
   (.seq
    (.seq
     (.reg 1 none [0, 1, 11] [
       ⟨(some 8), none, (.mv (.t 0))⟩,
       ⟨(some 9), none, (.mv (.t 1))⟩,
       ⟨(some 10), none, (.call (.k (.clo 17 [])) [(.t 8), (.t 9)])⟩,
       ⟨(some 11), none, (.un .not (.t 10))⟩])
     (.cond (.t 11)
      (.seq
       (.reg 2 none [4] [
         ⟨(some 4), none, (.mv (.k (.v (.int .i64 (-1)))))⟩])
       .ret)
      .skip))
    (.seq
     (.reg 3 none [0, 5, 6] [
       ⟨(some 12), none, (.mv (.t 1))⟩,
       ⟨(some 13), none, (.bin .quo false (.t 12) (.k (.v (.int .i64 1024))))⟩,
       ⟨(some 14), none, (.mv (.t 1))⟩,
       ⟨(some 15), none, (.bin .rem false (.t 14) (.k (.v (.int .i64 1024))))⟩,
       ⟨(some 5), none, (.mv (.t 13))⟩,
       ⟨(some 6), none, (.mv (.t 15))⟩])
     (.seq
      (.seq
       (.reg 4 none [0, 5, 6, 16] [
         ⟨(some 16), none, (.mv (.k (.v (.int .i64 0))))⟩])
       (.block 0
        (.loop
         (.seq
          (.reg 5 none [0, 5, 6, 16, 17] [
            ⟨(some 17), none, (.bin .lss false (.t 16) (.k (.v (.int .i64 8))))⟩])
          (.seq
           (.cond (.t 17)
            .skip
            (.exit 0))
           (.seq
            (.block 1
             (.seq
              (.reg 6 none [0, 5, 6, 7, 16] [
                ⟨(some 18), none, (.mv (.t 16))⟩,
                ⟨(some 7), none, (.mv (.t 18))⟩])
              (.reg 7 none [0, 5, 6, 16] [
                ⟨(some 19), none, (.mv (.t 6))⟩,
                ⟨(some 20), none, (.mv (.t 5))⟩,
                ⟨(some 21), none, (.mv (.t 0))⟩,
                ⟨(some 22), none, (.mv (.t 7))⟩,
                ⟨(some 23), none, (.mv (.t 6))⟩,
                ⟨(some 24), none, (.call (.k (.clo 18 [])) [(.t 21), (.t 22), (.t 23)])⟩,
                ⟨(some 25), none, (.bin .xor false (.t 20) (.t 24))⟩,
                ⟨(some 5), none, (.mv (.t 19))⟩,
                ⟨(some 6), none, (.mv (.t 25))⟩])))
            (.reg 8 none [0, 5, 6, 16] [
              ⟨(some 26), none, (.bin .add false (.t 16) (.k (.v (.int .i64 1))))⟩,
              ⟨(some 16), none, (.mv (.t 26))⟩])))))))
      (.seq
       (.reg 9 none [4] [
         ⟨(some 27), none, (.mv (.t 5))⟩,
         ⟨(some 28), none, (.bin .mul false (.t 27) (.k (.v (.int .i64 1024))))⟩,
         ⟨(some 29), none, (.mv (.t 6))⟩,
         ⟨(some 30), none, (.bin .add false (.t 28) (.t 29))⟩,
         ⟨(some 4), none, (.mv (.t 30))⟩])
       .ret)))))
theorem fn9 : FnIR Try.prog 9 31 [(0, [0, 1]), (1, [0, 1, 11]), (2, [4]), (3, [0, 5, 6]), (4, [0, 5, 6, 16]), (5, [0, 5, 6, 16, 17]), (6, [0, 5, 6, 7, 16]), (7, [0, 5, 6, 16]), (8, [0, 5, 6, 16]), (9, [4])] ir9 [(.tmp 4)] :=
  ⟨Try.f9, _, Try.func9, rfl, by kernel_rfl, rfl, by kernel_rfl, by kernel_rfl⟩

/-- dataenclave/pseudonym.Id -/
def ir10 : RC :=
  (.seq
   (.reg 0 none [0, 1] [
     ⟨(some 4), none, (.mv (.k (.v (.int .i64 0))))⟩])
   (.seq
    (.seq
     (.reg 1 none [0, 1, 11] [
       ⟨(some 8), none, (.mv (.t 0))⟩,
       ⟨(some 9), none, (.mv (.t 1))⟩,
       ⟨(some 10), none, (.call (.k (.clo 17 [])) [(.t 8), (.t 9)])⟩,
       ⟨(some 11), none, (.un .not (.t 10))⟩])
     (.cond (.t 11)
      (.seq
       (.reg 2 none [4] [
         ⟨(some 4), none, (.mv (.k (.v (.int .i64 (-1)))))⟩])
       .ret)
      .skip))
    (.seq
     (.reg 3 none [0, 5, 6] [
       ⟨(some 12), none, (.mv (.t 1))⟩,
       ⟨(some 13), none, (.bin .quo false (.t 12) (.k (.v (.int .i64 1024))))⟩,
       ⟨(some 14), none, (.mv (.t 1))⟩,
       ⟨(some 15), none, (.bin .rem false (.t 14) (.k (.v (.int .i64 1024))))⟩,
       ⟨(some 5), none, (.mv (.t 13))⟩,
       ⟨(some 6), none, (.mv (.t 15))⟩])
     (.seq
      (.seq
       (.reg 4 none [0, 5, 6, 7] [
         ⟨(some 7), none, (.mv (.k (.v (.int .i64 7))))⟩])
       (.block 0
        (.loop
         (.seq
          (.seq
           (.reg 5 none [0, 5, 6, 7, 17] [
             ⟨(some 16), none, (.mv (.t 7))⟩,
             ⟨(some 17), none, (.bin .geq false (.t 16) (.k (.v (.int .i64 0))))⟩])
           (.cond (.t 17)
            .skip
            (.exit 0)))
          (.seq
           (.block 1
            (.reg 7 none [0, 5, 6, 7] [
              ⟨(some 20), none, (.mv (.t 6))⟩,
              ⟨(some 21), none, (.mv (.t 0))⟩,
              ⟨(some 22), none, (.mv (.t 7))⟩,
              ⟨(some 23), none, (.mv (.t 5))⟩,
              ⟨(some 24), none, (.call (.k (.clo 18 [])) [(.t 21), (.t 22), (.t 23)])⟩,
              ⟨(some 25), none, (.bin .xor false (.t 20) (.t 24))⟩,
              ⟨(some 26), none, (.mv (.t 5))⟩,
              ⟨(some 5), none, (.mv (.t 25))⟩,
              ⟨(some 6), none, (.mv (.t 26))⟩]))
           (.reg 6 none [0, 5, 6, 7] [
             ⟨(some 18), none, (.mv (.t 7))⟩,
             ⟨(some 19), none, (.bin .sub false (.t 18) (.k (.v (.int .i64 1))))⟩,
             ⟨(some 7), none, (.mv (.t 19))⟩]))))))
      (.seq
       (.reg 8 none [4] [
         ⟨(some 27), none, (.mv (.t 5))⟩,
         ⟨(some 28), none, (.bin .mul false (.t 27) (.k (.v (.int .i64 1024))))⟩,
         ⟨(some 29), none, (.mv (.t 6))⟩,
         ⟨(some 30), none, (.bin .add false (.t 28) (.t 29))⟩,
         ⟨(some 4), none, (.mv (.t 30))⟩])
       .ret)))))
theorem fn10 : FnIR Try.prog 10 31 [(0, [0, 1]), (1, [0, 1, 11]), (2, [4]), (3, [0, 5, 6]), (4, [0, 5, 6, 7]), (5, [0, 5, 6, 7, 17]), (6, [0, 5, 6, 7]), (7, [0, 5, 6, 7]), (8, [4])] ir10 [(.tmp 4)] :=
  ⟨Try.f10, _, Try.func10, rfl, by kernel_rfl, rfl, by kernel_rfl, by kernel_rfl⟩

/-- dataenclave/dataenclavelaw12.awake -/
def ir11 : RC :=
  (.seq
   (.reg 0 none [] [
     ⟨(some 0), none, (.mv (.k (.v (.bool false))))⟩])
   (.seq
    (.reg 1 none [1] [
      ⟨(some 2), none, (.call (.k (.clo 9 [])) [(.k (.v (.int .i64 12345))), (.k (.v (.int .i64 678)))])⟩,
      ⟨(some 1), none, (.mv (.t 2))⟩])
    (.seq
     (.reg 2 none [0] [
       ⟨(some 3), none, (.mv (.t 1))⟩,
       ⟨(some 4), none, (.bin .geq false (.t 3) (.k (.v (.int .i64 0))))⟩,
       ⟨(some 5), none, (.mv (.t 4))⟩,
       ⟨(some 6), (some (5, true)), (.mv (.t 1))⟩,
       ⟨(some 7), (some (5, true)), (.bin .lss false (.t 6) (.k (.v (.int .i64 1048576))))⟩,
       ⟨(some 8), none, (.pick (.t 5) (.t 7) (.k (.v (.bool false))))⟩,
       ⟨(some 9), none, (.mv (.t 8))⟩,
       ⟨(some 10), (some (9, true)), (.mv (.t 1))⟩,
       ⟨(some 11), (some (9, true)), (.call (.k (.clo 10 [])) [(.k (.v (.int .i64 12345))), (.t 10)])⟩,
       ⟨(some 12), (some (9, true)), (.bin .eql false (.t 11) (.k (.v (.int .i64 678))))⟩,
       ⟨(some 13), none, (.pick (.t 9) (.t 12) (.k (.v (.bool false))))⟩,
       ⟨(some 14), none, (.mv (.t 13))⟩,
       ⟨(some 15), (some (14, true)), (.call (.k (.clo 9 [])) [(.k (.v (.int .i64 (-1)))), (.k (.v (.int .i64 5)))])⟩,
       ⟨(some 16), (some (14, true)), (.bin .eql false (.t 15) (.k (.v (.int .i64 (-1)))))⟩,
       ⟨(some 17), none, (.pick (.t 14) (.t 16) (.k (.v (.bool false))))⟩,
       ⟨(some 18), none, (.mv (.t 17))⟩,
       ⟨(some 19), (some (18, true)), (.call (.k (.clo 9 [])) [(.k (.v (.int .i64 5))), (.k (.v (.int .i64 1048576)))])⟩,
       ⟨(some 20), (some (18, true)), (.bin .eql false (.t 19) (.k (.v (.int .i64 (-1)))))⟩,
       ⟨(some 21), none, (.pick (.t 18) (.t 20) (.k (.v (.bool false))))⟩,
       ⟨(some 22), none, (.mv (.t 21))⟩,
       ⟨(some 23), (some (22, true)), (.call (.k (.clo 9 [])) [(.k (.v (.int .i64 1))), (.k (.v (.int .i64 5)))])⟩,
       ⟨(some 24), (some (22, true)), (.call (.k (.clo 9 [])) [(.k (.v (.int .i64 2))), (.k (.v (.int .i64 5)))])⟩,
       ⟨(some 25), (some (22, true)), (.bin .neq false (.t 23) (.t 24))⟩,
       ⟨(some 26), (some (22, true)), (.mv (.t 25))⟩,
       ⟨(some 27), (some (26, false)), (.call (.k (.clo 9 [])) [(.k (.v (.int .i64 1))), (.k (.v (.int .i64 6)))])⟩,
       ⟨(some 28), (some (26, false)), (.call (.k (.clo 9 [])) [(.k (.v (.int .i64 2))), (.k (.v (.int .i64 6)))])⟩,
       ⟨(some 29), (some (26, false)), (.bin .neq false (.t 27) (.t 28))⟩,
       ⟨(some 30), (some (22, true)), (.pick (.t 26) (.k (.v (.bool true))) (.t 29))⟩,
       ⟨(some 31), (some (22, true)), (.mv (.t 30))⟩,
       ⟨(some 32), (some (31, false)), (.call (.k (.clo 9 [])) [(.k (.v (.int .i64 1))), (.k (.v (.int .i64 7)))])⟩,
       ⟨(some 33), (some (31, false)), (.call (.k (.clo 9 [])) [(.k (.v (.int .i64 2))), (.k (.v (.int .i64 7)))])⟩,
       ⟨(some 34), (some (31, false)), (.bin .neq false (.t 32) (.t 33))⟩,
       ⟨(some 35), (some (22, true)), (.pick (.t 31) (.k (.v (.bool true))) (.t 34))⟩,
       ⟨(some 36), none, (.pick (.t 22) (.t 35) (.k (.v (.bool false))))⟩,
       ⟨(some 0), none, (.mv (.t 36))⟩])
     .ret)))
theorem fn11 : FnIR Try.prog 11 37 [(1, [1]), (2, [0])] ir11 [(.tmp 0)] :=
  ⟨Try.f11, _, Try.func11, rfl, by kernel_rfl, rfl, by kernel_rfl, by kernel_rfl⟩

/-- dataenclave/dataenclaveref01.Has -/
def ir12 : RC :=
  (.seq
   (.reg 0 none [0, 1] [
     ⟨(some 4), none, (.mv (.k (.v (.bool false))))⟩])
   (.seq
    (.seq
     (.reg 1 none [0, 1, 5] [
       ⟨(some 5), none, (.mv (.k (.v (.int .i64 0))))⟩])
     (.block 0
      (.loop
       (.seq
        (.seq
         (.reg 2 none [0, 1, 5, 9] [
           ⟨(some 6), none, (.mv (.t 5))⟩,
           ⟨(some 7), none, (.mv (.t 0))⟩,
           ⟨(some 8), none, (.lenL (.t 7))⟩,
           ⟨(some 9), none, (.bin .lss false (.t 6) (.t 8))⟩])
         (.cond (.t 9)
          .skip
          (.exit 0)))
        (.seq
         (.block 1
          (.seq
           (.reg 4 none [0, 1, 5, 17] [
             ⟨(some 12), none, (.mv (.t 0))⟩,
             ⟨(some 13), none, (.mv (.t 5))⟩,
             ⟨(some 14), none, (.ixL 1 (.t 12) (.t 13))⟩,
             ⟨(some 15), none, (.ld none (.t 14))⟩,
             ⟨(some 16), none, (.mv (.t 1))⟩,
             ⟨(some 17), none, (.bin .eql false (.t 15) (.t 16))⟩])
           (.cond (.t 17)
            (.seq
             (.reg 5 none [4] [
               ⟨(some 4), none, (.mv (.k (.v (.bool true))))⟩])
             .ret)
            .skip)))
         (.reg 3 none [0, 1, 5] [
           ⟨(some 10), none, (.mv (.t 5))⟩,
           ⟨(some 11), none, (.bin .add false (.t 10) (.k (.v (.int .i64 1))))⟩,
           ⟨(some 5), none, (.mv (.t 11))⟩]))))))
    (.seq
     (.reg 6 none [4] [
       ⟨(some 4), none, (.mv (.k (.v (.bool false))))⟩])
     .ret)))
theorem fn12 : FnIR Try.prog 12 18 [(0, [0, 1]), (1, [0, 1, 5]), (2, [0, 1, 5, 9]), (3, [0, 1, 5]), (4, [0, 1, 5, 17]), (5, [4]), (6, [4])] ir12 [(.tmp 4)] :=
  ⟨Try.f12, _, Try.func12, rfl, by kernel_rfl, rfl, by kernel_rfl, by kernel_rfl⟩

/-- dataenclave/dataenclaveref12.Key -/
def ir13 : RC :=
  (.seq
   (.reg 0 none [0, 1] [
     ⟨(some 4), none, (.mv (.k (.v (.int .i64 0))))⟩])
   (.seq
    (.seq
     (.reg 1 none [0, 1, 11] [
       ⟨(some 8), none, (.mv (.t 0))⟩,
       ⟨(some 9), none, (.mv (.t 1))⟩,
       ⟨(some 10), none, (.call (.k (.clo 19 [])) [(.t 8), (.t 9)])⟩,
       ⟨(some 11), none, (.un .not (.t 10))⟩])
     (.cond (.t 11)
      (.seq
       (.reg 2 none [4] [
         ⟨(some 4), none, (.mv (.k (.v (.int .i64 (-1)))))⟩])
       .ret)
      .skip))
    (.seq
     (.reg 3 none [0, 5, 6] [
       ⟨(some 12), none, (.mv (.t 1))⟩,
       ⟨(some 13), none, (.bin .quo false (.t 12) (.k (.v (.int .i64 1024))))⟩,
       ⟨(some 14), none, (.mv (.t 1))⟩,
       ⟨(some 15), none, (.bin .rem false (.t 14) (.k (.v (.int .i64 1024))))⟩,
       ⟨(some 5), none, (.mv (.t 13))⟩,
       ⟨(some 6), none, (.mv (.t 15))⟩])
     (.seq
      (.seq
       (.reg 4 none [0, 5, 6, 7] [
         ⟨(some 7), none, (.mv (.k (.v (.int .i64 0))))⟩])
       (.block 0
        (.loop
         (.seq
          (.seq
           (.reg 5 none [0, 5, 6, 7, 17] [
             ⟨(some 16), none, (.mv (.t 7))⟩,
             ⟨(some 17), none, (.bin .leq false (.t 16) (.k (.v (.int .i64 7))))⟩])
           (.cond (.t 17)
            .skip
            (.exit 0)))
          (.seq
           (.block 1
            (.reg 7 none [0, 5, 6, 7] [
              ⟨(some 20), none, (.mv (.t 6))⟩,
              ⟨(some 21), none, (.mv (.t 5))⟩,
              ⟨(some 22), none, (.mv (.t 0))⟩,
              ⟨(some 23), none, (.mv (.t 7))⟩,
              ⟨(some 24), none, (.mv (.t 6))⟩,
              ⟨(some 25), none, (.call (.k (.clo 16 [])) [(.t 22), (.t 23), (.t 24)])⟩,
              ⟨(some 26), none, (.bin .xor false (.t 21) (.t 25))⟩,
              ⟨(some 5), none, (.mv (.t 20))⟩,
              ⟨(some 6), none, (.mv (.t 26))⟩]))
           (.reg 6 none [0, 5, 6, 7] [
             ⟨(some 18), none, (.mv (.t 7))⟩,
             ⟨(some 19), none, (.bin .add false (.t 18) (.k (.v (.int .i64 1))))⟩,
             ⟨(some 7), none, (.mv (.t 19))⟩]))))))
      (.seq
       (.reg 8 none [4] [
         ⟨(some 27), none, (.mv (.t 5))⟩,
         ⟨(some 28), none, (.bin .mul false (.t 27) (.k (.v (.int .i64 1024))))⟩,
         ⟨(some 29), none, (.mv (.t 6))⟩,
         ⟨(some 30), none, (.bin .add false (.t 28) (.t 29))⟩,
         ⟨(some 4), none, (.mv (.t 30))⟩])
       .ret)))))
theorem fn13 : FnIR Try.prog 13 31 [(0, [0, 1]), (1, [0, 1, 11]), (2, [4]), (3, [0, 5, 6]), (4, [0, 5, 6, 7]), (5, [0, 5, 6, 7, 17]), (6, [0, 5, 6, 7]), (7, [0, 5, 6, 7]), (8, [4])] ir13 [(.tmp 4)] :=
  ⟨Try.f13, _, Try.func13, rfl, by kernel_rfl, rfl, by kernel_rfl, by kernel_rfl⟩

/-- dataenclave/dataenclaveref12.Id -/
def ir14 : RC :=
  (.seq
   (.reg 0 none [0, 1] [
     ⟨(some 4), none, (.mv (.k (.v (.int .i64 0))))⟩])
   (.seq
    (.seq
     (.reg 1 none [0, 1, 11] [
       ⟨(some 8), none, (.mv (.t 0))⟩,
       ⟨(some 9), none, (.mv (.t 1))⟩,
       ⟨(some 10), none, (.call (.k (.clo 19 [])) [(.t 8), (.t 9)])⟩,
       ⟨(some 11), none, (.un .not (.t 10))⟩])
     (.cond (.t 11)
      (.seq
       (.reg 2 none [4] [
         ⟨(some 4), none, (.mv (.k (.v (.int .i64 (-1)))))⟩])
       .ret)
      .skip))
    (.seq
     (.reg 3 none [0, 5, 6] [
       ⟨(some 12), none, (.mv (.t 1))⟩,
       ⟨(some 13), none, (.bin .quo false (.t 12) (.k (.v (.int .i64 1024))))⟩,
       ⟨(some 14), none, (.mv (.t 1))⟩,
       ⟨(some 15), none, (.bin .rem false (.t 14) (.k (.v (.int .i64 1024))))⟩,
       ⟨(some 5), none, (.mv (.t 13))⟩,
       ⟨(some 6), none, (.mv (.t 15))⟩])
     (.seq
      (.seq
       (.reg 4 none [0, 5, 6, 7] [
         ⟨(some 7), none, (.mv (.k (.v (.int .i64 7))))⟩])
       (.block 0
        (.loop
         (.seq
          (.seq
           (.reg 5 none [0, 5, 6, 7, 17] [
             ⟨(some 16), none, (.mv (.t 7))⟩,
             ⟨(some 17), none, (.bin .geq false (.t 16) (.k (.v (.int .i64 0))))⟩])
           (.cond (.t 17)
            .skip
            (.exit 0)))
          (.seq
           (.block 1
            (.reg 7 none [0, 5, 6, 7] [
              ⟨(some 20), none, (.mv (.t 6))⟩,
              ⟨(some 21), none, (.mv (.t 0))⟩,
              ⟨(some 22), none, (.mv (.t 7))⟩,
              ⟨(some 23), none, (.mv (.t 5))⟩,
              ⟨(some 24), none, (.call (.k (.clo 16 [])) [(.t 21), (.t 22), (.t 23)])⟩,
              ⟨(some 25), none, (.bin .xor false (.t 20) (.t 24))⟩,
              ⟨(some 26), none, (.mv (.t 5))⟩,
              ⟨(some 5), none, (.mv (.t 25))⟩,
              ⟨(some 6), none, (.mv (.t 26))⟩]))
           (.reg 6 none [0, 5, 6, 7] [
             ⟨(some 18), none, (.mv (.t 7))⟩,
             ⟨(some 19), none, (.bin .sub false (.t 18) (.k (.v (.int .i64 1))))⟩,
             ⟨(some 7), none, (.mv (.t 19))⟩]))))))
      (.seq
       (.reg 8 none [4] [
         ⟨(some 27), none, (.mv (.t 5))⟩,
         ⟨(some 28), none, (.bin .mul false (.t 27) (.k (.v (.int .i64 1024))))⟩,
         ⟨(some 29), none, (.mv (.t 6))⟩,
         ⟨(some 30), none, (.bin .add false (.t 28) (.t 29))⟩,
         ⟨(some 4), none, (.mv (.t 30))⟩])
       .ret)))))
theorem fn14 : FnIR Try.prog 14 31 [(0, [0, 1]), (1, [0, 1, 11]), (2, [4]), (3, [0, 5, 6]), (4, [0, 5, 6, 7]), (5, [0, 5, 6, 7, 17]), (6, [0, 5, 6, 7]), (7, [0, 5, 6, 7]), (8, [4])] ir14 [(.tmp 4)] :=
  ⟨Try.f14, _, Try.func14, rfl, by kernel_rfl, rfl, by kernel_rfl, by kernel_rfl⟩

/-- dataenclave/pseudonym.Round -/
def ir15 : RC :=
  (.seq
   (.reg 0 none [0, 1, 2] [
     ⟨(some 6), none, (.mv (.k (.v (.int .i64 0))))⟩])
   (.seq
    (.seq
     (.reg 1 none [0, 1, 2, 28] [
       ⟨(some 7), none, (.mv (.t 0))⟩,
       ⟨(some 8), none, (.bin .lss false (.t 7) (.k (.v (.int .i64 0))))⟩,
       ⟨(some 9), none, (.mv (.t 8))⟩,
       ⟨(some 10), (some (9, false)), (.mv (.t 0))⟩,
       ⟨(some 11), (some (9, false)), (.bin .geq false (.t 10) (.k (.v (.int .i64 1152921504606846976))))⟩,
       ⟨(some 12), none, (.pick (.t 9) (.k (.v (.bool true))) (.t 11))⟩,
       ⟨(some 13), none, (.mv (.t 12))⟩,
       ⟨(some 14), (some (13, false)), (.mv (.t 1))⟩,
       ⟨(some 15), (some (13, false)), (.bin .lss false (.t 14) (.k (.v (.int .i64 0))))⟩,
       ⟨(some 16), none, (.pick (.t 13) (.k (.v (.bool true))) (.t 15))⟩,
       ⟨(some 17), none, (.mv (.t 16))⟩,
       ⟨(some 18), (some (17, false)), (.mv (.t 1))⟩,
       ⟨(some 19), (some (17, false)), (.bin .geq false (.t 18) (.k (.v (.int .i64 8))))⟩,
       ⟨(some 20), none, (.pick (.t 17) (.k (.v (.bool true))) (.t 19))⟩,
       ⟨(some 21), none, (.mv (.t 20))⟩,
       ⟨(some 22), (some (21, false)), (.mv (.t 2))⟩,
       ⟨(some 23), (some (21, false)), (.bin .lss false (.t 22) (.k (.v (.int .i64 0))))⟩,
       ⟨(some 24), none, (.pick (.t 21) (.k (.v (.bool true))) (.t 23))⟩,
       ⟨(some 25), none, (.mv (.t 24))⟩,
       ⟨(some 26), (some (25, false)), (.mv (.t 2))⟩,
       ⟨(some 27), (some (25, false)), (.bin .geq false (.t 26) (.k (.v (.int .i64 1024))))⟩,
       ⟨(some 28), none, (.pick (.t 25) (.k (.v (.bool true))) (.t 27))⟩])
     (.cond (.t 28)
      (.seq
       (.reg 2 none [6] [
         ⟨(some 6), none, (.mv (.k (.v (.int .i64 0))))⟩])
       .ret)
      .skip))
    (.seq
     (.reg 3 none [6] [
       ⟨(some 29), none, (.mv (.t 0))⟩,
       ⟨(some 30), none, (.mv (.t 1))⟩,
       ⟨(some 31), none, (.mv (.t 2))⟩,
       ⟨(some 32), none, (.call (.k (.clo 18 [])) [(.t 29), (.t 30), (.t 31)])⟩,
       ⟨(some 6), none, (.mv (.t 32))⟩])
     .ret)))
theorem fn15 : FnIR Try.prog 15 33 [(0, [0, 1, 2]), (1, [0, 1, 2, 28]), (2, [6]), (3, [6])] ir15 [(.tmp 6)] :=
  ⟨Try.f15, _, Try.func15, rfl, by kernel_rfl, rfl, by kernel_rfl, by kernel_rfl⟩

/-- dataenclave/dataenclaveref12.Round -/
def ir16 : RC :=
  (.seq
   (.reg 0 none [0, 1, 2] [
     ⟨(some 6), none, (.mv (.k (.v (.int .i64 0))))⟩])
   (.seq
    (.seq
     (.reg 1 none [0, 1, 2, 30] [
       ⟨(some 9), none, (.mv (.t 0))⟩,
       ⟨(some 10), none, (.bin .lss false (.t 9) (.k (.v (.int .i64 0))))⟩,
       ⟨(some 11), none, (.mv (.t 10))⟩,
       ⟨(some 12), (some (11, false)), (.mv (.t 0))⟩,
       ⟨(some 13), (some (11, false)), (.bin .geq false (.t 12) (.k (.v (.int .i64 1152921504606846976))))⟩,
       ⟨(some 14), none, (.pick (.t 11) (.k (.v (.bool true))) (.t 13))⟩,
       ⟨(some 15), none, (.mv (.t 14))⟩,
       ⟨(some 16), (some (15, false)), (.mv (.t 1))⟩,
       ⟨(some 17), (some (15, false)), (.bin .lss false (.t 16) (.k (.v (.int .i64 0))))⟩,
       ⟨(some 18), none, (.pick (.t 15) (.k (.v (.bool true))) (.t 17))⟩,
       ⟨(some 19), none, (.mv (.t 18))⟩,
       ⟨(some 20), (some (19, false)), (.mv (.t 1))⟩,
       ⟨(some 21), (some (19, false)), (.bin .gtr false (.t 20) (.k (.v (.int .i64 7))))⟩,
       ⟨(some 22), none, (.pick (.t 19) (.k (.v (.bool true))) (.t 21))⟩,
       ⟨(some 23), none, (.mv (.t 22))⟩,
       ⟨(some 24), (some (23, false)), (.mv (.t 2))⟩,
       ⟨(some 25), (some (23, false)), (.bin .lss false (.t 24) (.k (.v (.int .i64 0))))⟩,
       ⟨(some 26), none, (.pick (.t 23) (.k (.v (.bool true))) (.t 25))⟩,
       ⟨(some 27), none, (.mv (.t 26))⟩,
       ⟨(some 28), (some (27, false)), (.mv (.t 2))⟩,
       ⟨(some 29), (some (27, false)), (.bin .gtr false (.t 28) (.k (.v (.int .i64 1023))))⟩,
       ⟨(some 30), none, (.pick (.t 27) (.k (.v (.bool true))) (.t 29))⟩])
     (.cond (.t 30)
      (.seq
       (.reg 2 none [6] [
         ⟨(some 6), none, (.mv (.k (.v (.int .i64 0))))⟩])
       .ret)
      .skip))
    (.seq
     (.reg 3 none [7] [
       ⟨(some 31), none, (.mv (.t 0))⟩,
       ⟨(some 32), none, (.cvI .u64 (.t 31))⟩,
       ⟨(some 33), none, (.mv (.t 1))⟩,
       ⟨(some 34), none, (.cvI .u64 (.t 33))⟩,
       ⟨(some 35), none, (.bin .mul false (.t 34) (.k (.v (.int .u64 11400714819323198485))))⟩,
       ⟨(some 36), none, (.bin .add false (.t 32) (.t 35))⟩,
       ⟨(some 37), none, (.mv (.t 2))⟩,
       ⟨(some 38), none, (.cvI .u64 (.t 37))⟩,
       ⟨(some 39), none, (.bin .mul false (.t 38) (.k (.v (.int .u64 14029467366897019727))))⟩,
       ⟨(some 40), none, (.bin .add false (.t 36) (.t 39))⟩,
       ⟨(some 7), none, (.mv (.t 40))⟩])
     (.seq
      (.seq
       (.reg 4 none [7, 8] [
         ⟨(some 8), none, (.mv (.k (.v (.int .i64 0))))⟩])
       (.block 0
        (.loop
         (.seq
          (.seq
           (.reg 5 none [7, 8, 42] [
             ⟨(some 41), none, (.mv (.t 8))⟩,
             ⟨(some 42), none, (.bin .lss false (.t 41) (.k (.v (.int .i64 3))))⟩])
           (.cond (.t 42)
            .skip
            (.exit 0)))
          (.seq
           (.block 1
            (.seq
             (.reg 7 none [7, 8] [
               ⟨(some 45), none, (.mv (.t 7))⟩,
               ⟨(some 46), none, (.mv (.t 7))⟩,
               ⟨(some 47), none, (.bin .shr false (.t 46) (.k (.v (.int .u64 31))))⟩,
               ⟨(some 48), none, (.bin .xor false (.t 45) (.t 47))⟩,
               ⟨(some 7), none, (.mv (.t 48))⟩])
             (.reg 8 none [7, 8] [
               ⟨(some 49), none, (.mv (.t 7))⟩,
               ⟨(some 50), none, (.bin .mul false (.t 49) (.k (.v (.int .u64 13787848793156543929))))⟩,
               ⟨(some 7), none, (.mv (.t 50))⟩])))
           (.reg 6 none [7, 8] [
             ⟨(some 43), none, (.mv (.t 8))⟩,
             ⟨(some 44), none, (.bin .add false (.t 43) (.k (.v (.int .i64 1))))⟩,
             ⟨(some 8), none, (.mv (.t 44))⟩]))))))
      (.seq
       (.reg 9 none [6] [
         ⟨(some 51), none, (.mv (.t 7))⟩,
         ⟨(some 52), none, (.bin .shr false (.t 51) (.k (.v (.int .u64 54))))⟩,
         ⟨(some 53), none, (.cvI .i64 (.t 52))⟩,
         ⟨(some 6), none, (.mv (.t 53))⟩])
       .ret)))))
theorem fn16 : FnIR Try.prog 16 54 [(0, [0, 1, 2]), (1, [0, 1, 2, 30]), (2, [6]), (3, [7]), (4, [7, 8]), (5, [7, 8, 42]), (6, [7, 8]), (7, [7, 8]), (8, [7, 8]), (9, [6])] ir16 [(.tmp 6)] :=
  ⟨Try.f16, _, Try.func16, rfl, by kernel_rfl, rfl, by kernel_rfl, by kernel_rfl⟩

/-- dataenclave/pseudonym.right -/
def ir17 : RC :=
  (.seq
   (.reg 0 none [0, 1] [
     ⟨(some 4), none, (.mv (.k (.v (.bool false))))⟩])
   (.seq
    (.reg 1 none [4] [
      ⟨(some 5), none, (.mv (.t 0))⟩,
      ⟨(some 6), none, (.bin .geq false (.t 5) (.k (.v (.int .i64 0))))⟩,
      ⟨(some 7), none, (.mv (.t 6))⟩,
      ⟨(some 8), (some (7, true)), (.mv (.t 0))⟩,
      ⟨(some 9), (some (7, true)), (.bin .lss false (.t 8) (.k (.v (.int .i64 1152921504606846976))))⟩,
      ⟨(some 10), none, (.pick (.t 7) (.t 9) (.k (.v (.bool false))))⟩,
      ⟨(some 11), none, (.mv (.t 10))⟩,
      ⟨(some 12), (some (11, true)), (.mv (.t 1))⟩,
      ⟨(some 13), (some (11, true)), (.bin .geq false (.t 12) (.k (.v (.int .i64 0))))⟩,
      ⟨(some 14), none, (.pick (.t 11) (.t 13) (.k (.v (.bool false))))⟩,
      ⟨(some 15), none, (.mv (.t 14))⟩,
      ⟨(some 16), (some (15, true)), (.mv (.t 1))⟩,
      ⟨(some 17), (some (15, true)), (.bin .lss false (.t 16) (.k (.v (.int .i64 1048576))))⟩,
      ⟨(some 18), none, (.pick (.t 15) (.t 17) (.k (.v (.bool false))))⟩,
      ⟨(some 4), none, (.mv (.t 18))⟩])
    .ret))
theorem fn17 : FnIR Try.prog 17 19 [(0, [0, 1]), (1, [4])] ir17 [(.tmp 4)] :=
  ⟨Try.f17, _, Try.func17, rfl, by kernel_rfl, rfl, by kernel_rfl, by kernel_rfl⟩

/-- dataenclave/pseudonym.mix -/
def ir18 : RC :=
  (.seq
   (.reg 0 none [0, 1, 2] [
     ⟨(some 6), none, (.mv (.k (.v (.int .i64 0))))⟩])
   (.seq
    (.reg 1 none [7] [
      ⟨(some 8), none, (.mv (.t 0))⟩,
      ⟨(some 9), none, (.cvI .u64 (.t 8))⟩,
      ⟨(some 10), none, (.mv (.t 1))⟩,
      ⟨(some 11), none, (.cvI .u64 (.t 10))⟩,
      ⟨(some 12), none, (.bin .mul false (.t 11) (.k (.v (.int .u64 11400714819323198485))))⟩,
      ⟨(some 13), none, (.bin .add false (.t 9) (.t 12))⟩,
      ⟨(some 14), none, (.mv (.t 2))⟩,
      ⟨(some 15), none, (.cvI .u64 (.t 14))⟩,
      ⟨(some 16), none, (.bin .mul false (.t 15) (.k (.v (.int .u64 14029467366897019727))))⟩,
      ⟨(some 17), none, (.bin .add false (.t 13) (.t 16))⟩,
      ⟨(some 7), none, (.mv (.t 17))⟩])
    (.seq
     (.seq
      (.reg 2 none [7, 18] [
        ⟨(some 18), none, (.mv (.k (.v (.int .i64 0))))⟩])
      (.block 0
       (.loop
        (.seq
         (.reg 3 none [7, 18, 19] [
           ⟨(some 19), none, (.bin .lss false (.t 18) (.k (.v (.int .i64 3))))⟩])
         (.seq
          (.cond (.t 19)
           .skip
           (.exit 0))
          (.seq
           (.block 1
            (.seq
             (.reg 4 none [7, 18] [
               ⟨(some 20), none, (.mv (.t 7))⟩,
               ⟨(some 21), none, (.mv (.t 7))⟩,
               ⟨(some 22), none, (.bin .shr false (.t 21) (.k (.v (.int .u64 31))))⟩,
               ⟨(some 23), none, (.bin .xor false (.t 20) (.t 22))⟩,
               ⟨(some 7), none, (.mv (.t 23))⟩])
             (.reg 5 none [7, 18] [
               ⟨(some 24), none, (.mv (.t 7))⟩,
               ⟨(some 25), none, (.bin .mul false (.t 24) (.k (.v (.int .u64 13787848793156543929))))⟩,
               ⟨(some 7), none, (.mv (.t 25))⟩])))
           (.reg 6 none [7, 18] [
             ⟨(some 26), none, (.bin .add false (.t 18) (.k (.v (.int .i64 1))))⟩,
             ⟨(some 18), none, (.mv (.t 26))⟩])))))))
     (.seq
      (.reg 7 none [6] [
        ⟨(some 27), none, (.mv (.t 7))⟩,
        ⟨(some 28), none, (.bin .shr false (.t 27) (.k (.v (.int .u64 54))))⟩,
        ⟨(some 29), none, (.cvI .i64 (.t 28))⟩,
        ⟨(some 6), none, (.mv (.t 29))⟩])
      .ret))))
theorem fn18 : FnIR Try.prog 18 30 [(0, [0, 1, 2]), (1, [7]), (2, [7, 18]), (3, [7, 18, 19]), (4, [7, 18]), (5, [7, 18]), (6, [7, 18]), (7, [6])] ir18 [(.tmp 6)] :=
  ⟨Try.f18, _, Try.func18, rfl, by kernel_rfl, rfl, by kernel_rfl, by kernel_rfl⟩

/-- dataenclave/dataenclaveref12.right -/
def ir19 : RC :=
  (.seq
   (.reg 0 none [0, 1] [
     ⟨(some 4), none, (.mv (.k (.v (.bool false))))⟩])
   (.seq
    (.reg 1 none [4] [
      ⟨(some 5), none, (.mv (.t 0))⟩,
      ⟨(some 6), none, (.bin .geq false (.t 5) (.k (.v (.int .i64 0))))⟩,
      ⟨(some 7), none, (.mv (.t 6))⟩,
      ⟨(some 8), (some (7, true)), (.mv (.t 0))⟩,
      ⟨(some 9), (some (7, true)), (.bin .lss false (.t 8) (.k (.v (.int .i64 1152921504606846976))))⟩,
      ⟨(some 10), none, (.pick (.t 7) (.t 9) (.k (.v (.bool false))))⟩,
      ⟨(some 11), none, (.mv (.t 10))⟩,
      ⟨(some 12), (some (11, true)), (.mv (.t 1))⟩,
      ⟨(some 13), (some (11, true)), (.bin .geq false (.t 12) (.k (.v (.int .i64 0))))⟩,
      ⟨(some 14), none, (.pick (.t 11) (.t 13) (.k (.v (.bool false))))⟩,
      ⟨(some 15), none, (.mv (.t 14))⟩,
      ⟨(some 16), (some (15, true)), (.mv (.t 1))⟩,
      ⟨(some 17), (some (15, true)), (.bin .lss false (.t 16) (.k (.v (.int .i64 1048576))))⟩,
      ⟨(some 18), none, (.pick (.t 15) (.t 17) (.k (.v (.bool false))))⟩,
      ⟨(some 4), none, (.mv (.t 18))⟩])
    .ret))
theorem fn19 : FnIR Try.prog 19 19 [(0, [0, 1]), (1, [4])] ir19 [(.tmp 4)] :=
  ⟨Try.f19, _, Try.func19, rfl, by kernel_rfl, rfl, by kernel_rfl, by kernel_rfl⟩

end Go.Proofs

