import Derived.Test.YtmlpadmppocbkaaChecked
import Derived.Test.YtmlpadmppocbkaaZzU
namespace Go.Proofs
open Go.TL
/-- dataenclave/dataenclavelaw23.JournalTears -/
def ir3 : RC :=
  (.seq
   (.reg 0 none [0, 1, 2] [
     ⟨(some 6), none, (.mv (.k (.v (.bool false))))⟩])
   (.seq
    (.seq
     (.reg 1 none [0, 1, 2, 25] [
       ⟨(some 18), none, (.mv (.t 0))⟩,
       ⟨(some 19), none, (.lenL (.t 18))⟩,
       ⟨(some 20), none, (.bin .gtr false (.t 19) (.k (.v (.int .i64 300))))⟩,
       ⟨(some 21), none, (.mv (.t 20))⟩,
       ⟨(some 22), (some (21, false)), (.mv (.t 1))⟩,
       ⟨(some 23), (some (21, false)), (.lenL (.t 22))⟩,
       ⟨(some 24), (some (21, false)), (.bin .gtr false (.t 23) (.k (.v (.int .i64 300))))⟩,
       ⟨(some 25), none, (.pick (.t 21) (.k (.v (.bool true))) (.t 24))⟩])
     (.cond (.t 25)
      (.seq
       (.reg 2 none [6] [
         ⟨(some 26), none, (.call (.k (.clo 8 [])) [])⟩,
         ⟨(some 6), none, (.mv (.t 26))⟩])
       .ret)
      .skip))
    (.seq
     (.reg 3 none [0, 1, 2, 7, 8] [
       ⟨(some 28), none, (.mv (.t 0))⟩,
       ⟨(some 29), none, (.call (.k (.clo 9 [])) [(.t 28)])⟩,
       ⟨(some 27), none, (.mv (.t 29))⟩,
       ⟨(some 30), none, (.ex (.t 27) 0)⟩,
       ⟨(some 31), none, (.ex (.t 27) 1)⟩,
       ⟨(some 7), none, (.mv (.t 30))⟩,
       ⟨(some 8), none, (.mv (.t 31))⟩])
     (.seq
      (.reg 4 none [0, 2, 7, 8, 9, 10] [
        ⟨(some 33), none, (.mv (.t 1))⟩,
        ⟨(some 34), none, (.call (.k (.clo 9 [])) [(.t 33)])⟩,
        ⟨(some 32), none, (.mv (.t 34))⟩,
        ⟨(some 35), none, (.ex (.t 32) 0)⟩,
        ⟨(some 36), none, (.ex (.t 32) 1)⟩,
        ⟨(some 9), none, (.mv (.t 35))⟩,
        ⟨(some 10), none, (.mv (.t 36))⟩])
      (.seq
       (.reg 5 none [0, 2, 7, 8, 10, 11] [
         ⟨(some 37), none, (.bsl 1 0 [])⟩,
         ⟨(some 38), none, (.mv (.t 7))⟩,
         ⟨(some 39), none, (.app 1 1 false (.t 37) (.t 38))⟩,
         ⟨(some 40), none, (.mv (.t 9))⟩,
         ⟨(some 41), none, (.app 1 1 false (.t 39) (.t 40))⟩,
         ⟨(some 11), none, (.mv (.t 41))⟩])
       (.seq
        (.reg 6 none [0, 7, 8, 10, 11, 12] [
          ⟨(some 42), none, (.mv (.t 2))⟩,
          ⟨(some 43), none, (.cvI .i64 (.t 42))⟩,
          ⟨(some 44), none, (.mv (.t 11))⟩,
          ⟨(some 45), none, (.lenL (.t 44))⟩,
          ⟨(some 46), none, (.bin .add false (.t 45) (.k (.v (.int .i64 1))))⟩,
          ⟨(some 47), none, (.bin .rem false (.t 43) (.t 46))⟩,
          ⟨(some 12), none, (.mv (.t 47))⟩])
        (.seq
         (.reg 7 none [0, 7, 8, 10, 11, 12, 13, 14] [
           ⟨(some 49), none, (.mv (.t 11))⟩,
           ⟨(some 50), none, (.mv (.t 12))⟩,
           ⟨(some 51), none, (.slL 1 (.t 49) none (some (.t 50)))⟩,
           ⟨(some 52), none, (.call (.k (.clo 10 [])) [(.t 51)])⟩,
           ⟨(some 48), none, (.mv (.t 52))⟩,
           ⟨(some 53), none, (.ex (.t 48) 0)⟩,
           ⟨(some 54), none, (.ex (.t 48) 1)⟩,
           ⟨(some 13), none, (.mv (.t 53))⟩,
           ⟨(some 14), none, (.mv (.t 54))⟩])
         (.seq
          (.reg 8 none [0, 7, 8, 10, 11, 12, 13, 14, 16] [
            ⟨(some 56), none, (.mv (.t 11))⟩,
            ⟨(some 57), none, (.mv (.t 12))⟩,
            ⟨(some 58), none, (.slL 1 (.t 56) none (some (.t 57)))⟩,
            ⟨(some 59), none, (.build [(.v (.slice none 0 0)), (.v (.slice none 0 0))] [((0, 1), (.t 58))])⟩,
            ⟨(some 60), none, (.mv (.t 0))⟩,
            ⟨(some 61), none, (.call (.k (.clo 11 [])) [(.t 59), (.t 60)])⟩,
            ⟨(some 55), none, (.mv (.t 61))⟩,
            ⟨(some 62), none, (.ex (.t 55) 0)⟩,
            ⟨(some 63), none, (.ex (.t 55) 1)⟩,
            ⟨(some 15), none, (.new (.agg [(.v (.slice none 0 0)), (.v (.slice none 0 0))]))⟩,
            ⟨none, none, (.st 2 (.t 15) (.t 62))⟩,
            ⟨(some 16), none, (.mv (.t 63))⟩])
          (.seq
           (.reg 9 none [0, 7, 8, 10, 11, 12, 13, 14, 16, 17] [
             ⟨(some 17), none, (.mv (.k (.v (.int .i64 0))))⟩])
           (.seq
            (.seq
             (.reg 10 none [0, 8, 10, 11, 12, 13, 14, 16, 17, 67] [
               ⟨(some 64), none, (.mv (.t 12))⟩,
               ⟨(some 65), none, (.mv (.t 7))⟩,
               ⟨(some 66), none, (.lenL (.t 65))⟩,
               ⟨(some 67), none, (.bin .geq false (.t 64) (.t 66))⟩])
             (.cond (.t 67)
              (.reg 11 none [0, 8, 10, 11, 12, 13, 14, 16, 17] [
                ⟨(some 17), none, (.mv (.k (.v (.int .i64 1))))⟩])
              .skip))
            (.seq
             (.seq
              (.reg 12 none [0, 8, 10, 12, 13, 14, 16, 17, 71] [
                ⟨(some 68), none, (.mv (.t 12))⟩,
                ⟨(some 69), none, (.mv (.t 11))⟩,
                ⟨(some 70), none, (.lenL (.t 69))⟩,
                ⟨(some 71), none, (.bin .eql false (.t 68) (.t 70))⟩])
              (.cond (.t 71)
               (.reg 13 none [0, 8, 10, 12, 13, 14, 16, 17] [
                 ⟨(some 17), none, (.mv (.k (.v (.int .i64 2))))⟩])
               .skip))
             (.seq
              (.reg 14 (some [0, 1, 3, 7, 15, 31, 63, 127, 255, 127, 1023, 2047, 4095, 8191, 16383, 8191, 8191, 106495, 262143, 524287, 1048575, 2097151, 4194303, 8388607, 16777215, 33554431, 67108863, 134217727, 16777215, 285212671, 1073741823, 2147483647, 4294967295, 8589934591, 17179869183, 34359738367, 68719476735]) [6] [
                ⟨(some 72), none, (.mv (.t 8))⟩,
                ⟨(some 73), none, (.bin .eql false (.t 72) (.k (.v (.int .i64 0))))⟩,
                ⟨(some 74), none, (.mv (.t 73))⟩,
                ⟨(some 75), (some (74, true)), (.mv (.t 10))⟩,
                ⟨(some 76), (some (74, true)), (.bin .eql false (.t 75) (.k (.v (.int .i64 0))))⟩,
                ⟨(some 77), none, (.pick (.t 74) (.t 76) (.k (.v (.bool false))))⟩,
                ⟨(some 78), none, (.mv (.t 77))⟩,
                ⟨(some 79), (some (78, true)), (.mv (.t 13))⟩,
                ⟨(some 80), (some (78, true)), (.lenL (.t 79))⟩,
                ⟨(some 81), (some (78, true)), (.mv (.t 17))⟩,
                ⟨(some 82), (some (78, true)), (.bin .eql false (.t 80) (.t 81))⟩,
                ⟨(some 83), none, (.pick (.t 78) (.t 82) (.k (.v (.bool false))))⟩,
                ⟨(some 84), none, (.mv (.t 83))⟩,
                ⟨(some 85), (some (84, true)), (.mv (.t 16))⟩,
                ⟨(some 86), (some (84, true)), (.bin .eql false (.t 85) (.k (.v (.int .i64 40))))⟩,
                ⟨(some 87), (some (84, true)), (.mv (.t 14))⟩,
                ⟨(some 88), (some (84, true)), (.mv (.t 12))⟩,
                ⟨(some 89), (some (84, true)), (.bin .neq false (.t 87) (.t 88))⟩,
                ⟨(some 90), (some (84, true)), (.bin .eql true (.t 86) (.t 89))⟩,
                ⟨(some 91), none, (.pick (.t 84) (.t 90) (.k (.v (.bool false))))⟩,
                ⟨(some 92), none, (.mv (.t 91))⟩,
                ⟨(some 93), (some (92, true)), (.mv (.t 17))⟩,
                ⟨(some 94), (some (92, true)), (.bin .lss false (.t 93) (.k (.v (.int .i64 1))))⟩,
                ⟨(some 95), (some (92, true)), (.mv (.t 94))⟩,
                ⟨(some 96), (some (95, false)), (.mv (.t 13))⟩,
                ⟨(some 97), (some (95, false)), (.ixL 1 (.t 96) (.k (.v (.int .i64 0))))⟩,
                ⟨(some 98), (some (95, false)), (.ld none (.t 97))⟩,
                ⟨(some 99), (some (95, false)), (.cvBS (.t 98))⟩,
                ⟨(some 100), (some (95, false)), (.mv (.t 0))⟩,
                ⟨(some 101), (some (95, false)), (.cvBS (.t 100))⟩,
                ⟨(some 102), (some (95, false)), (.bin .eql false (.t 99) (.t 101))⟩,
                ⟨(some 103), (some (92, true)), (.pick (.t 95) (.k (.v (.bool true))) (.t 102))⟩,
                ⟨(some 104), none, (.pick (.t 92) (.t 103) (.k (.v (.bool false))))⟩,
                ⟨(some 105), none, (.mv (.t 104))⟩,
                ⟨(some 106), (some (105, true)), (.call (.k (.clo 8 [])) [])⟩,
                ⟨(some 107), none, (.pick (.t 105) (.t 106) (.k (.v (.bool false))))⟩,
                ⟨(some 6), none, (.mv (.t 107))⟩])
              .ret))))))))))))
theorem fn3 : FnIR Try.prog 3 108 [(0, [0, 1, 2]), (1, [0, 1, 2, 25]), (2, [6]), (3, [0, 1, 2, 7, 8]), (4, [0, 2, 7, 8, 9, 10]), (5, [0, 2, 7, 8, 10, 11]), (6, [0, 7, 8, 10, 11, 12]), (7, [0, 7, 8, 10, 11, 12, 13, 14]), (8, [0, 7, 8, 10, 11, 12, 13, 14, 16]), (9, [0, 7, 8, 10, 11, 12, 13, 14, 16, 17]), (10, [0, 8, 10, 11, 12, 13, 14, 16, 17, 67]), (11, [0, 8, 10, 11, 12, 13, 14, 16, 17]), (12, [0, 8, 10, 12, 13, 14, 16, 17, 71]), (13, [0, 8, 10, 12, 13, 14, 16, 17]), (14, [6])] ir3 [(.tmp 6)] :=
  ⟨Try.f3, _, Try.func3, rfl, by kernel_rfl, rfl, by kernel_rfl, by kernel_rfl⟩

/-- dataenclave/dataenclavelaw23.JournalLimits -/
def ir4 : RC :=
  (.seq
   (.reg 0 none [0] [
     ⟨(some 2), none, (.mv (.k (.v (.bool false))))⟩])
   (.seq
    (.reg 1 none [0, 3] [
      ⟨(some 9), none, (.mv (.t 0))⟩,
      ⟨(some 10), none, (.cvI .i64 (.t 9))⟩,
      ⟨(some 11), none, (.bin .rem false (.t 10) (.k (.v (.int .i64 5))))⟩,
      ⟨(some 12), none, (.bin .add false (.k (.v (.int .i64 4094))) (.t 11))⟩,
      ⟨(some 3), none, (.mv (.t 12))⟩])
    (.seq
     (.reg 2 none [0, 3, 5] [
       ⟨(some 14), none, (.mv (.t 3))⟩,
       ⟨(some 15), none, (.mk 1 1 (.v (.int .u8 0)) (.t 14) (.t 14))⟩,
       ⟨(some 16), none, (.call (.k (.clo 9 [])) [(.t 15)])⟩,
       ⟨(some 13), none, (.mv (.t 16))⟩,
       ⟨(some 17), none, (.ex (.t 13) 0)⟩,
       ⟨(some 18), none, (.ex (.t 13) 1)⟩,
       ⟨(some 4), none, (.mv (.t 17))⟩,
       ⟨(some 5), none, (.mv (.t 18))⟩])
     (.seq
      (.reg 3 none [3, 5, 6] [
        ⟨(some 19), none, (.mv (.t 0))⟩,
        ⟨(some 20), none, (.cvI .i64 (.t 19))⟩,
        ⟨(some 21), none, (.bin .rem false (.t 20) (.k (.v (.int .i64 25))))⟩,
        ⟨(some 22), none, (.bin .add false (.k (.v (.int .i64 262124))) (.t 21))⟩,
        ⟨(some 23), none, (.mk 1 1 (.v (.int .u8 0)) (.t 22) (.t 22))⟩,
        ⟨(some 6), none, (.mv (.t 23))⟩])
      (.seq
       (.reg 4 none [3, 5, 6, 8] [
         ⟨(some 25), none, (.mv (.t 6))⟩,
         ⟨(some 26), none, (.build [(.v (.slice none 0 0)), (.v (.slice none 0 0))] [((1, 1), (.t 25))])⟩,
         ⟨(some 27), none, (.bsl 1 1 [(.k (.v (.int .u8 1)))])⟩,
         ⟨(some 28), none, (.call (.k (.clo 11 [])) [(.t 26), (.t 27)])⟩,
         ⟨(some 24), none, (.mv (.t 28))⟩,
         ⟨(some 29), none, (.ex (.t 24) 0)⟩,
         ⟨(some 30), none, (.ex (.t 24) 1)⟩,
         ⟨(some 7), none, (.new (.agg [(.v (.slice none 0 0)), (.v (.slice none 0 0))]))⟩,
         ⟨none, none, (.st 2 (.t 7) (.t 29))⟩,
         ⟨(some 8), none, (.mv (.t 30))⟩])
       (.seq
        (.reg 5 none [2] [
          ⟨(some 31), none, (.mv (.t 5))⟩,
          ⟨(some 32), none, (.bin .eql false (.t 31) (.k (.v (.int .i64 1))))⟩,
          ⟨(some 33), none, (.mv (.t 3))⟩,
          ⟨(some 34), none, (.bin .gtr false (.t 33) (.k (.v (.int .i64 4096))))⟩,
          ⟨(some 35), none, (.bin .eql true (.t 32) (.t 34))⟩,
          ⟨(some 36), none, (.mv (.t 35))⟩,
          ⟨(some 37), (some (36, true)), (.mv (.t 8))⟩,
          ⟨(some 38), (some (36, true)), (.bin .eql false (.t 37) (.k (.v (.int .i64 42))))⟩,
          ⟨(some 39), (some (36, true)), (.mv (.t 6))⟩,
          ⟨(some 40), (some (36, true)), (.lenL (.t 39))⟩,
          ⟨(some 41), (some (36, true)), (.bin .add false (.t 40) (.k (.v (.int .i64 9))))⟩,
          ⟨(some 42), (some (36, true)), (.bin .gtr false (.t 41) (.k (.v (.int .i64 262144))))⟩,
          ⟨(some 43), (some (36, true)), (.bin .eql true (.t 38) (.t 42))⟩,
          ⟨(some 44), none, (.pick (.t 36) (.t 43) (.k (.v (.bool false))))⟩,
          ⟨(some 45), none, (.mv (.t 44))⟩,
          ⟨(some 46), (some (45, true)), (.call (.k (.clo 8 [])) [])⟩,
          ⟨(some 47), none, (.pick (.t 45) (.t 46) (.k (.v (.bool false))))⟩,
          ⟨(some 2), none, (.mv (.t 47))⟩])
        .ret))))))
theorem fn4 : FnIR Try.prog 4 48 [(0, [0]), (1, [0, 3]), (2, [0, 3, 5]), (3, [3, 5, 6]), (4, [3, 5, 6, 8]), (5, [2])] ir4 [(.tmp 2)] :=
  ⟨Try.f4, _, Try.func4, rfl, by kernel_rfl, rfl, by kernel_rfl, by kernel_rfl⟩

/-- dataenclave/dataenclavelaw23.JournalAnswers -/
def ir5 : RC :=
  (.seq
   (.reg 0 none [0, 1, 2, 3] [
     ⟨(some 8), none, (.mv (.k (.v (.bool false))))⟩])
   (.seq
    (.seq
     (.reg 1 none [0, 1, 2, 3, 32] [
       ⟨(some 27), none, (.mv (.t 0))⟩,
       ⟨(some 28), none, (.mv (.t 1))⟩,
       ⟨(some 29), none, (.mv (.t 2))⟩,
       ⟨(some 30), none, (.bsl 1 3 [(.t 27), (.t 28), (.t 29)])⟩,
       ⟨(some 31), none, (.call (.k (.clo 12 [])) [(.t 30)])⟩,
       ⟨(some 32), none, (.un .not (.t 31))⟩])
     (.cond (.t 32)
      (.seq
       (.reg 2 none [8] [
         ⟨(some 33), none, (.call (.k (.clo 8 [])) [])⟩,
         ⟨(some 8), none, (.mv (.t 33))⟩])
       .ret)
      .skip))
    (.seq
     (.reg 3 none [0, 1, 2, 3, 9] [
       ⟨(some 35), none, (.mv (.t 2))⟩,
       ⟨(some 36), none, (.call (.k (.clo 13 [])) [(.t 35)])⟩,
       ⟨(some 34), none, (.mv (.t 36))⟩,
       ⟨(some 37), none, (.ex (.t 34) 0)⟩,
       ⟨(some 38), none, (.ex (.t 34) 1)⟩,
       ⟨(some 9), none, (.mv (.t 37))⟩,
       ⟨(some 10), none, (.mv (.t 38))⟩])
     (.seq
      (.seq
       (.reg 4 none [2, 3, 9, 52, 53, 54] [
         ⟨(some 39), none, (.mv (.t 0))⟩,
         ⟨(some 40), none, (.mv (.t 1))⟩,
         ⟨(some 41), none, (.build [(.v (.slice none 0 0)), (.v (.slice none 0 0))] [((0, 1), (.t 39)), ((1, 1), (.t 40))])⟩,
         ⟨(some 42), none, (.mv (.t 9))⟩,
         ⟨(some 43), none, (.mv (.t 1))⟩,
         ⟨(some 44), none, (.build [(.v (.slice none 0 0)), (.v (.slice none 0 0))] [((0, 1), (.t 42)), ((1, 1), (.t 43))])⟩,
         ⟨(some 45), none, (.bsl 1 0 [])⟩,
         ⟨(some 46), none, (.mv (.t 9))⟩,
         ⟨(some 47), none, (.app 1 1 false (.t 45) (.t 46))⟩,
         ⟨(some 48), none, (.mv (.t 0))⟩,
         ⟨(some 49), none, (.app 1 1 false (.t 47) (.t 48))⟩,
         ⟨(some 50), none, (.mv (.t 9))⟩,
         ⟨(some 51), none, (.build [(.v (.slice none 0 0)), (.v (.slice none 0 0))] [((0, 1), (.t 49)), ((1, 1), (.t 50))])⟩,
         ⟨(some 52), none, (.bsl 2 3 [(.t 41), (.t 44), (.t 51)])⟩,
         ⟨(some 53), none, (.lenL (.t 52))⟩,
         ⟨(some 54), none, (.mv (.k (.v (.int .i64 0))))⟩])
       (.block 0
        (.loop
         (.seq
          (.reg 5 none [2, 3, 9, 52, 53, 54, 55] [
            ⟨(some 55), none, (.bin .lss false (.t 54) (.t 53))⟩])
          (.seq
           (.cond (.t 55)
            .skip
            (.exit 0))
           (.seq
            (.block 1
             (.seq
              (.reg 6 none [2, 3, 9, 12, 52, 53, 54] [
                ⟨(some 56), none, (.ixL 2 (.t 52) (.t 54))⟩,
                ⟨(some 57), none, (.ld (some 2) (.t 56))⟩,
                ⟨(some 12), none, (.new (.agg [(.v (.slice none 0 0)), (.v (.slice none 0 0))]))⟩,
                ⟨none, none, (.st 2 (.t 12) (.t 57))⟩])
              (.seq
               (.reg 7 none [2, 3, 9, 12, 13, 14, 52, 53, 54] [
                 ⟨(some 59), none, (.ld (some 2) (.t 12))⟩,
                 ⟨(some 60), none, (.mv (.t 2))⟩,
                 ⟨(some 61), none, (.call (.k (.clo 11 [])) [(.t 59), (.t 60)])⟩,
                 ⟨(some 58), none, (.mv (.t 61))⟩,
                 ⟨(some 62), none, (.ex (.t 58) 0)⟩,
                 ⟨(some 63), none, (.ex (.t 58) 1)⟩,
                 ⟨(some 13), none, (.new (.agg [(.v (.slice none 0 0)), (.v (.slice none 0 0))]))⟩,
                 ⟨none, none, (.st 2 (.t 13) (.t 62))⟩,
                 ⟨(some 14), none, (.mv (.t 63))⟩])
               (.seq
                (.reg 8 none [2, 3, 9, 12, 13, 14, 15, 16, 52, 53, 54] [
                  ⟨(some 65), none, (.ld (some 2) (.t 12))⟩,
                  ⟨(some 66), none, (.mv (.t 2))⟩,
                  ⟨(some 67), none, (.call (.k (.clo 14 [])) [(.t 65), (.t 66)])⟩,
                  ⟨(some 64), none, (.mv (.t 67))⟩,
                  ⟨(some 68), none, (.ex (.t 64) 0)⟩,
                  ⟨(some 69), none, (.ex (.t 64) 1)⟩,
                  ⟨(some 15), none, (.new (.agg [(.v (.slice none 0 0)), (.v (.slice none 0 0))]))⟩,
                  ⟨none, none, (.st 2 (.t 15) (.t 68))⟩,
                  ⟨(some 16), none, (.mv (.t 69))⟩])
                (.seq
                 (.reg 9 none [2, 3, 9, 12, 13, 14, 15, 16, 17, 18, 52, 53, 54] [
                   ⟨(some 71), none, (.ld (some 2) (.t 12))⟩,
                   ⟨(some 72), none, (.call (.k (.clo 15 [])) [(.t 71)])⟩,
                   ⟨(some 70), none, (.mv (.t 72))⟩,
                   ⟨(some 73), none, (.ex (.t 70) 0)⟩,
                   ⟨(some 74), none, (.ex (.t 70) 1)⟩,
                   ⟨(some 17), none, (.new (.agg [(.v (.slice none 0 0)), (.v (.slice none 0 0))]))⟩,
                   ⟨none, none, (.st 2 (.t 17) (.t 73))⟩,
                   ⟨(some 18), none, (.mv (.t 74))⟩])
                 (.seq
                  (.reg 10 none [2, 3, 9, 12, 13, 14, 15, 16, 17, 18, 19, 20, 52, 53, 54] [
                    ⟨(some 76), none, (.ld (some 2) (.t 12))⟩,
                    ⟨(some 77), none, (.call (.k (.clo 16 [])) [(.t 76)])⟩,
                    ⟨(some 75), none, (.mv (.t 77))⟩,
                    ⟨(some 78), none, (.ex (.t 75) 0)⟩,
                    ⟨(some 79), none, (.ex (.t 75) 1)⟩,
                    ⟨(some 19), none, (.new (.agg [(.v (.slice none 0 0)), (.v (.slice none 0 0))]))⟩,
                    ⟨none, none, (.st 2 (.t 19) (.t 78))⟩,
                    ⟨(some 20), none, (.mv (.t 79))⟩])
                  (.seq
                   (.reg 11 none [2, 3, 9, 12, 13, 14, 15, 16, 17, 18, 19, 20, 21, 22, 52, 53, 54] [
                     ⟨(some 81), none, (.fa 0 (.t 12))⟩,
                     ⟨(some 82), none, (.ld none (.t 81))⟩,
                     ⟨(some 83), none, (.call (.k (.clo 10 [])) [(.t 82)])⟩,
                     ⟨(some 80), none, (.mv (.t 83))⟩,
                     ⟨(some 84), none, (.ex (.t 80) 0)⟩,
                     ⟨(some 85), none, (.ex (.t 80) 1)⟩,
                     ⟨(some 21), none, (.mv (.t 84))⟩,
                     ⟨(some 22), none, (.mv (.t 85))⟩])
                   (.seq
                    (.reg 12 none [2, 3, 9, 12, 13, 14, 15, 16, 17, 18, 19, 20, 21, 22, 23, 24, 52, 53, 54] [
                      ⟨(some 87), none, (.fa 0 (.t 12))⟩,
                      ⟨(some 88), none, (.ld none (.t 87))⟩,
                      ⟨(some 89), none, (.call (.k (.clo 17 [])) [(.t 88)])⟩,
                      ⟨(some 86), none, (.mv (.t 89))⟩,
                      ⟨(some 90), none, (.ex (.t 86) 0)⟩,
                      ⟨(some 91), none, (.ex (.t 86) 1)⟩,
                      ⟨(some 23), none, (.mv (.t 90))⟩,
                      ⟨(some 24), none, (.mv (.t 91))⟩])
                    (.seq
                     (.reg 13 (some [0, 0, 3, 7, 15, 31, 31, 127, 255, 511, 1023, 1023, 4095, 8191, 16383, 32767, 65535, 65535, 262143, 524287, 1048575, 2097151, 4194303, 4194303, 16777215, 33554431, 67108863, 134217727, 268435455, 268435455, 1073741823, 2147483647, 4294967295, 8589934591, 17179869183, 8589934591, 68719476735, 137438953471, 274877906943, 549755813887, 1099511627775, 2199023255551, 2199023255551, 8796093022207, 2199023255551, 2199023255551, 70368744177663, 140737488355327, 281474976710655, 562949953421311]) [2, 3, 9, 52, 53, 54, 141] [
                       ⟨(some 92), none, (.ld (some 2) (.t 13))⟩,
                       ⟨(some 93), none, (.ld (some 2) (.t 15))⟩,
                       ⟨(some 94), none, (.call (.k (.clo 18 [])) [(.t 92), (.t 93)])⟩,
                       ⟨(some 95), none, (.un .not (.t 94))⟩,
                       ⟨(some 96), none, (.mv (.t 95))⟩,
                       ⟨(some 97), (some (96, false)), (.mv (.t 14))⟩,
                       ⟨(some 98), (some (96, false)), (.mv (.t 16))⟩,
                       ⟨(some 99), (some (96, false)), (.bin .neq false (.t 97) (.t 98))⟩,
                       ⟨(some 100), none, (.pick (.t 96) (.k (.v (.bool true))) (.t 99))⟩,
                       ⟨(some 101), none, (.mv (.t 100))⟩,
                       ⟨(some 102), (some (101, false)), (.ld (some 2) (.t 17))⟩,
                       ⟨(some 103), (some (101, false)), (.ld (some 2) (.t 19))⟩,
                       ⟨(some 104), (some (101, false)), (.call (.k (.clo 18 [])) [(.t 102), (.t 103)])⟩,
                       ⟨(some 105), (some (101, false)), (.un .not (.t 104))⟩,
                       ⟨(some 106), none, (.pick (.t 101) (.k (.v (.bool true))) (.t 105))⟩,
                       ⟨(some 107), none, (.mv (.t 106))⟩,
                       ⟨(some 108), (some (107, false)), (.mv (.t 18))⟩,
                       ⟨(some 109), (some (107, false)), (.mv (.t 20))⟩,
                       ⟨(some 110), (some (107, false)), (.call (.k (.clo 19 [])) [(.t 108), (.t 109)])⟩,
                       ⟨(some 111), (some (107, false)), (.un .not (.t 110))⟩,
                       ⟨(some 112), none, (.pick (.t 107) (.k (.v (.bool true))) (.t 111))⟩,
                       ⟨(some 113), none, (.mv (.t 112))⟩,
                       ⟨(some 114), (some (113, false)), (.mv (.t 21))⟩,
                       ⟨(some 115), (some (113, false)), (.mv (.t 23))⟩,
                       ⟨(some 116), (some (113, false)), (.call (.k (.clo 19 [])) [(.t 114), (.t 115)])⟩,
                       ⟨(some 117), (some (113, false)), (.un .not (.t 116))⟩,
                       ⟨(some 118), none, (.pick (.t 113) (.k (.v (.bool true))) (.t 117))⟩,
                       ⟨(some 119), none, (.mv (.t 118))⟩,
                       ⟨(some 120), (some (119, false)), (.mv (.t 22))⟩,
                       ⟨(some 121), (some (119, false)), (.mv (.t 24))⟩,
                       ⟨(some 122), (some (119, false)), (.bin .neq false (.t 120) (.t 121))⟩,
                       ⟨(some 123), none, (.pick (.t 119) (.k (.v (.bool true))) (.t 122))⟩,
                       ⟨(some 124), none, (.mv (.t 123))⟩,
                       ⟨(some 125), (some (124, false)), (.ld (some 2) (.t 12))⟩,
                       ⟨(some 126), (some (124, false)), (.call (.k (.clo 20 [])) [(.t 125)])⟩,
                       ⟨(some 127), (some (124, false)), (.ld (some 2) (.t 12))⟩,
                       ⟨(some 128), (some (124, false)), (.call (.k (.clo 21 [])) [(.t 127)])⟩,
                       ⟨(some 129), (some (124, false)), (.call (.k (.clo 18 [])) [(.t 126), (.t 128)])⟩,
                       ⟨(some 130), (some (124, false)), (.un .not (.t 129))⟩,
                       ⟨(some 131), none, (.pick (.t 124) (.k (.v (.bool true))) (.t 130))⟩,
                       ⟨(some 132), none, (.mv (.t 131))⟩,
                       ⟨(some 133), (some (132, false)), (.ld (some 2) (.t 12))⟩,
                       ⟨(some 134), (some (132, false)), (.mv (.t 3))⟩,
                       ⟨(some 135), (some (132, false)), (.call (.k (.clo 22 [])) [(.t 133), (.t 134)])⟩,
                       ⟨(some 136), (some (132, false)), (.ld (some 2) (.t 12))⟩,
                       ⟨(some 137), (some (132, false)), (.mv (.t 3))⟩,
                       ⟨(some 138), (some (132, false)), (.call (.k (.clo 23 [])) [(.t 136), (.t 137)])⟩,
                       ⟨(some 139), (some (132, false)), (.call (.k (.clo 18 [])) [(.t 135), (.t 138)])⟩,
                       ⟨(some 140), (some (132, false)), (.un .not (.t 139))⟩,
                       ⟨(some 141), none, (.pick (.t 132) (.k (.v (.bool true))) (.t 140))⟩])
                     (.cond (.t 141)
                      (.seq
                       (.reg 14 none [8] [
                         ⟨(some 8), none, (.mv (.k (.v (.bool false))))⟩])
                       .ret)
                      .skip))))))))))
            (.reg 15 none [2, 3, 9, 52, 53, 54] [
              ⟨(some 142), none, (.bin .add false (.t 54) (.k (.v (.int .i64 1))))⟩,
              ⟨(some 54), none, (.mv (.t 142))⟩])))))))
      (.seq
       (.reg 16 none [9, 25, 26] [
         ⟨(some 144), none, (.mv (.t 2))⟩,
         ⟨(some 145), none, (.call (.k (.clo 9 [])) [(.t 144)])⟩,
         ⟨(some 143), none, (.mv (.t 145))⟩,
         ⟨(some 146), none, (.ex (.t 143) 0)⟩,
         ⟨(some 147), none, (.ex (.t 143) 1)⟩,
         ⟨(some 25), none, (.mv (.t 146))⟩,
         ⟨(some 26), none, (.mv (.t 147))⟩])
       (.seq
        (.reg 17 none [8] [
          ⟨(some 148), none, (.mv (.t 26))⟩,
          ⟨(some 149), none, (.bin .eql false (.t 148) (.k (.v (.int .i64 0))))⟩,
          ⟨(some 150), none, (.mv (.t 149))⟩,
          ⟨(some 151), (some (150, true)), (.mv (.t 25))⟩,
          ⟨(some 152), (some (150, true)), (.cvBS (.t 151))⟩,
          ⟨(some 153), (some (150, true)), (.mv (.t 9))⟩,
          ⟨(some 154), (some (150, true)), (.cvBS (.t 153))⟩,
          ⟨(some 155), (some (150, true)), (.bin .eql false (.t 152) (.t 154))⟩,
          ⟨(some 156), none, (.pick (.t 150) (.t 155) (.k (.v (.bool false))))⟩,
          ⟨(some 157), none, (.mv (.t 156))⟩,
          ⟨(some 158), (some (157, true)), (.call (.k (.clo 8 [])) [])⟩,
          ⟨(some 159), none, (.pick (.t 157) (.t 158) (.k (.v (.bool false))))⟩,
          ⟨(some 8), none, (.mv (.t 159))⟩])
        .ret))))))
theorem fn5 : FnIR Try.prog 5 160 [(0, [0, 1, 2, 3]), (1, [0, 1, 2, 3, 32]), (2, [8]), (3, [0, 1, 2, 3, 9]), (4, [2, 3, 9, 52, 53, 54]), (5, [2, 3, 9, 52, 53, 54, 55]), (6, [2, 3, 9, 12, 52, 53, 54]), (7, [2, 3, 9, 12, 13, 14, 52, 53, 54]), (8, [2, 3, 9, 12, 13, 14, 15, 16, 52, 53, 54]), (9, [2, 3, 9, 12, 13, 14, 15, 16, 17, 18, 52, 53, 54]), (10, [2, 3, 9, 12, 13, 14, 15, 16, 17, 18, 19, 20, 52, 53, 54]), (11, [2, 3, 9, 12, 13, 14, 15, 16, 17, 18, 19, 20, 21, 22, 52, 53, 54]), (12, [2, 3, 9, 12, 13, 14, 15, 16, 17, 18, 19, 20, 21, 22, 23, 24, 52, 53, 54]), (13, [2, 3, 9, 52, 53, 54, 141]), (14, [8]), (15, [2, 3, 9, 52, 53, 54]), (16, [9, 25, 26]), (17, [8])] ir5 [(.tmp 8)] :=
  ⟨Try.f5, _, Try.func5, rfl, by kernel_rfl, rfl, by kernel_rfl, by kernel_rfl⟩

/-- dataenclave/dataenclavelaw23.JournalKeeps -/
def ir6 : RC :=
  (.seq
   (.reg 0 none [0, 1, 2] [
     ⟨(some 6), none, (.mv (.k (.v (.bool false))))⟩])
   (.seq
    (.reg 1 none [0, 1, 2, 7] [
      ⟨(some 7), none, (.new (.agg [(.v (.slice none 0 0)), (.v (.slice none 0 0))]))⟩])
    (.seq
     (.reg 2 none [0, 1, 2, 7, 8] [
       ⟨(some 8), none, (.mv (.k (.v (.int .i64 0))))⟩])
     (.seq
      (.seq
       (.reg 3 none [0, 1, 2, 7, 8, 9] [
         ⟨(some 9), none, (.mv (.k (.v (.int .i64 0))))⟩])
       (.block 0
        (.loop
         (.seq
          (.seq
           (.reg 4 none [0, 1, 2, 7, 8, 9, 24] [
             ⟨(some 17), none, (.mv (.t 9))⟩,
             ⟨(some 18), none, (.mv (.t 0))⟩,
             ⟨(some 19), none, (.lenL (.t 18))⟩,
             ⟨(some 20), none, (.bin .lss false (.t 17) (.t 19))⟩,
             ⟨(some 21), none, (.mv (.t 20))⟩,
             ⟨(some 22), (some (21, true)), (.mv (.t 9))⟩,
             ⟨(some 23), (some (21, true)), (.bin .lss false (.t 22) (.k (.v (.int .i64 12))))⟩,
             ⟨(some 24), none, (.pick (.t 21) (.t 23) (.k (.v (.bool false))))⟩])
           (.cond (.t 24)
            .skip
            (.exit 0)))
          (.seq
           (.block 1
            (.seq
             (.seq
              (.reg 6 none [0, 1, 2, 7, 8, 9, 32] [
                ⟨(some 27), none, (.mv (.t 0))⟩,
                ⟨(some 28), none, (.mv (.t 9))⟩,
                ⟨(some 29), none, (.ixL 1 (.t 27) (.t 28))⟩,
                ⟨(some 30), none, (.ld none (.t 29))⟩,
                ⟨(some 31), none, (.lenL (.t 30))⟩,
                ⟨(some 32), none, (.bin .gtr false (.t 31) (.k (.v (.int .i64 300))))⟩])
              (.cond (.t 32)
               (.seq
                (.reg 7 none [6] [
                  ⟨(some 33), none, (.call (.k (.clo 8 [])) [])⟩,
                  ⟨(some 6), none, (.mv (.t 33))⟩])
                .ret)
               .skip))
             (.seq
              (.reg 8 (some [0, 0, 0, 6, 14, 31, 63, 127, 127, 0, 767, 2047]) [0, 1, 2, 7, 8, 9, 10, 11] [
                ⟨(some 35), none, (.ld (some 2) (.t 7))⟩,
                ⟨(some 36), none, (.mv (.t 0))⟩,
                ⟨(some 37), none, (.mv (.t 9))⟩,
                ⟨(some 38), none, (.ixL 1 (.t 36) (.t 37))⟩,
                ⟨(some 39), none, (.ld none (.t 38))⟩,
                ⟨(some 40), none, (.call (.k (.clo 11 [])) [(.t 35), (.t 39)])⟩,
                ⟨(some 34), none, (.mv (.t 40))⟩,
                ⟨(some 41), none, (.ex (.t 34) 0)⟩,
                ⟨(some 42), none, (.ex (.t 34) 1)⟩,
                ⟨(some 10), none, (.new (.agg [(.v (.slice none 0 0)), (.v (.slice none 0 0))]))⟩,
                ⟨none, none, (.st 2 (.t 10) (.t 41))⟩,
                ⟨(some 11), none, (.mv (.t 42))⟩])
              (.seq
               (.seq
                (.reg 9 none [0, 1, 2, 7, 8, 9, 10, 44] [
                  ⟨(some 43), none, (.mv (.t 11))⟩,
                  ⟨(some 44), none, (.bin .neq false (.t 43) (.k (.v (.int .i64 0))))⟩])
                (.cond (.t 44)
                 (.seq
                  (.reg 10 none [6] [
                    ⟨(some 6), none, (.mv (.k (.v (.bool false))))⟩])
                  .ret)
                 .skip))
               (.seq
                (.reg 11 none [0, 1, 2, 7, 8, 9] [
                  ⟨(some 45), none, (.ld (some 2) (.t 10))⟩,
                  ⟨(some 46), none, (.call (.k (.clo 20 [])) [(.t 45)])⟩,
                  ⟨none, none, (.st 2 (.t 7) (.t 46))⟩])
                (.reg 12 none [0, 1, 2, 7, 8, 9] [
                  ⟨(some 47), none, (.mv (.t 8))⟩,
                  ⟨(some 48), none, (.bin .add false (.t 47) (.k (.v (.int .i64 1))))⟩,
                  ⟨(some 8), none, (.mv (.t 48))⟩]))))))
           (.reg 5 none [0, 1, 2, 7, 8, 9] [
             ⟨(some 25), none, (.mv (.t 9))⟩,
             ⟨(some 26), none, (.bin .add false (.t 25) (.k (.v (.int .i64 1))))⟩,
             ⟨(some 9), none, (.mv (.t 26))⟩]))))))
      (.seq
       (.seq
        (.reg 13 none [0, 1, 2, 7, 8, 51] [
          ⟨(some 49), none, (.mv (.t 1))⟩,
          ⟨(some 50), none, (.lenL (.t 49))⟩,
          ⟨(some 51), none, (.bin .gtr false (.t 50) (.k (.v (.int .i64 300))))⟩])
        (.cond (.t 51)
         (.seq
          (.reg 14 none [6] [
            ⟨(some 52), none, (.call (.k (.clo 8 [])) [])⟩,
            ⟨(some 6), none, (.mv (.t 52))⟩])
          .ret)
         .skip))
       (.seq
        (.reg 15 none [0, 1, 2, 7, 8, 12, 13] [
          ⟨(some 54), none, (.ld (some 2) (.t 7))⟩,
          ⟨(some 55), none, (.mv (.t 1))⟩,
          ⟨(some 56), none, (.call (.k (.clo 11 [])) [(.t 54), (.t 55)])⟩,
          ⟨(some 53), none, (.mv (.t 56))⟩,
          ⟨(some 57), none, (.ex (.t 53) 0)⟩,
          ⟨(some 58), none, (.ex (.t 53) 1)⟩,
          ⟨(some 12), none, (.new (.agg [(.v (.slice none 0 0)), (.v (.slice none 0 0))]))⟩,
          ⟨none, none, (.st 2 (.t 12) (.t 57))⟩,
          ⟨(some 13), none, (.mv (.t 58))⟩])
        (.seq
         (.reg 16 none [0, 1, 7, 8, 13, 14, 15] [
           ⟨(some 60), none, (.ld (some 2) (.t 12))⟩,
           ⟨(some 61), none, (.mv (.t 2))⟩,
           ⟨(some 62), none, (.call (.k (.clo 22 [])) [(.t 60), (.t 61)])⟩,
           ⟨(some 63), none, (.call (.k (.clo 15 [])) [(.t 62)])⟩,
           ⟨(some 59), none, (.mv (.t 63))⟩,
           ⟨(some 64), none, (.ex (.t 59) 0)⟩,
           ⟨(some 65), none, (.ex (.t 59) 1)⟩,
           ⟨(some 14), none, (.new (.agg [(.v (.slice none 0 0)), (.v (.slice none 0 0))]))⟩,
           ⟨none, none, (.st 2 (.t 14) (.t 64))⟩,
           ⟨(some 15), none, (.mv (.t 65))⟩])
         (.seq
          (.seq
           (.reg 17 none [0, 1, 7, 8, 14, 15, 80] [
             ⟨(some 66), none, (.mv (.t 13))⟩,
             ⟨(some 67), none, (.bin .neq false (.t 66) (.k (.v (.int .i64 0))))⟩,
             ⟨(some 68), none, (.mv (.t 67))⟩,
             ⟨(some 69), (some (68, false)), (.mv (.t 15))⟩,
             ⟨(some 70), (some (68, false)), (.lenL (.t 69))⟩,
             ⟨(some 71), (some (68, false)), (.mv (.t 8))⟩,
             ⟨(some 72), (some (68, false)), (.bin .lss false (.t 70) (.t 71))⟩,
             ⟨(some 73), none, (.pick (.t 68) (.k (.v (.bool true))) (.t 72))⟩,
             ⟨(some 74), none, (.mv (.t 73))⟩,
             ⟨(some 75), (some (74, false)), (.mv (.t 15))⟩,
             ⟨(some 76), (some (74, false)), (.lenL (.t 75))⟩,
             ⟨(some 77), (some (74, false)), (.mv (.t 8))⟩,
             ⟨(some 78), (some (74, false)), (.bin .add false (.t 77) (.k (.v (.int .i64 1))))⟩,
             ⟨(some 79), (some (74, false)), (.bin .gtr false (.t 76) (.t 78))⟩,
             ⟨(some 80), none, (.pick (.t 74) (.k (.v (.bool true))) (.t 79))⟩])
           (.cond (.t 80)
            (.seq
             (.reg 18 none [6] [
               ⟨(some 6), none, (.mv (.k (.v (.bool false))))⟩])
             .ret)
            .skip))
          (.seq
           (.seq
            (.reg 19 none [0, 1, 7, 8, 14, 15, 16] [
              ⟨(some 16), none, (.mv (.k (.v (.int .i64 0))))⟩])
            (.block 2
             (.loop
              (.seq
               (.seq
                (.reg 20 none [0, 1, 7, 8, 14, 15, 16, 83] [
                  ⟨(some 81), none, (.mv (.t 16))⟩,
                  ⟨(some 82), none, (.mv (.t 8))⟩,
                  ⟨(some 83), none, (.bin .lss false (.t 81) (.t 82))⟩])
                (.cond (.t 83)
                 .skip
                 (.exit 2)))
               (.seq
                (.block 3
                 (.seq
                  (.reg 22 (some [0, 0, 3, 7, 15, 0, 0, 96, 224, 480, 1023]) [0, 1, 7, 8, 14, 15, 16, 96] [
                    ⟨(some 86), none, (.mv (.t 15))⟩,
                    ⟨(some 87), none, (.mv (.t 16))⟩,
                    ⟨(some 88), none, (.ixL 1 (.t 86) (.t 87))⟩,
                    ⟨(some 89), none, (.ld none (.t 88))⟩,
                    ⟨(some 90), none, (.cvBS (.t 89))⟩,
                    ⟨(some 91), none, (.mv (.t 0))⟩,
                    ⟨(some 92), none, (.mv (.t 16))⟩,
                    ⟨(some 93), none, (.ixL 1 (.t 91) (.t 92))⟩,
                    ⟨(some 94), none, (.ld none (.t 93))⟩,
                    ⟨(some 95), none, (.cvBS (.t 94))⟩,
                    ⟨(some 96), none, (.bin .neq false (.t 90) (.t 95))⟩])
                  (.cond (.t 96)
                   (.seq
                    (.reg 23 none [6] [
                      ⟨(some 6), none, (.mv (.k (.v (.bool false))))⟩])
                    .ret)
                   .skip)))
                (.reg 21 none [0, 1, 7, 8, 14, 15, 16] [
                  ⟨(some 84), none, (.mv (.t 16))⟩,
                  ⟨(some 85), none, (.bin .add false (.t 84) (.k (.v (.int .i64 1))))⟩,
                  ⟨(some 16), none, (.mv (.t 85))⟩]))))))
           (.seq
            (.seq
             (.reg 24 none [1, 7, 8, 14, 15, 101] [
               ⟨(some 97), none, (.mv (.t 15))⟩,
               ⟨(some 98), none, (.lenL (.t 97))⟩,
               ⟨(some 99), none, (.mv (.t 8))⟩,
               ⟨(some 100), none, (.bin .add false (.t 99) (.k (.v (.int .i64 1))))⟩,
               ⟨(some 101), none, (.bin .eql false (.t 98) (.t 100))⟩])
             (.cond (.t 101)
              (.seq
               (.reg 25 (some [0, 0, 3, 7, 15, 0, 32, 127, 255, 511, 1023, 2047]) [6] [
                 ⟨(some 102), none, (.mv (.t 15))⟩,
                 ⟨(some 103), none, (.mv (.t 8))⟩,
                 ⟨(some 104), none, (.ixL 1 (.t 102) (.t 103))⟩,
                 ⟨(some 105), none, (.ld none (.t 104))⟩,
                 ⟨(some 106), none, (.cvBS (.t 105))⟩,
                 ⟨(some 107), none, (.mv (.t 1))⟩,
                 ⟨(some 108), none, (.cvBS (.t 107))⟩,
                 ⟨(some 109), none, (.bin .eql false (.t 106) (.t 108))⟩,
                 ⟨(some 110), none, (.mv (.t 109))⟩,
                 ⟨(some 111), (some (110, true)), (.call (.k (.clo 8 [])) [])⟩,
                 ⟨(some 112), none, (.pick (.t 110) (.t 111) (.k (.v (.bool false))))⟩,
                 ⟨(some 6), none, (.mv (.t 112))⟩])
               .ret)
              .skip))
            (.seq
             (.reg 26 none [6] [
               ⟨(some 113), none, (.ld (some 2) (.t 14))⟩,
               ⟨(some 114), none, (.ld (some 2) (.t 7))⟩,
               ⟨(some 115), none, (.call (.k (.clo 18 [])) [(.t 113), (.t 114)])⟩,
               ⟨(some 116), none, (.mv (.t 115))⟩,
               ⟨(some 117), (some (116, true)), (.call (.k (.clo 8 [])) [])⟩,
               ⟨(some 118), none, (.pick (.t 116) (.t 117) (.k (.v (.bool false))))⟩,
               ⟨(some 6), none, (.mv (.t 118))⟩])
             .ret)))))))))))
theorem fn6 : FnIR Try.prog 6 119 [(0, [0, 1, 2]), (1, [0, 1, 2, 7]), (2, [0, 1, 2, 7, 8]), (3, [0, 1, 2, 7, 8, 9]), (4, [0, 1, 2, 7, 8, 9, 24]), (5, [0, 1, 2, 7, 8, 9]), (6, [0, 1, 2, 7, 8, 9, 32]), (7, [6]), (8, [0, 1, 2, 7, 8, 9, 10, 11]), (9, [0, 1, 2, 7, 8, 9, 10, 44]), (10, [6]), (11, [0, 1, 2, 7, 8, 9]), (12, [0, 1, 2, 7, 8, 9]), (13, [0, 1, 2, 7, 8, 51]), (14, [6]), (15, [0, 1, 2, 7, 8, 12, 13]), (16, [0, 1, 7, 8, 13, 14, 15]), (17, [0, 1, 7, 8, 14, 15, 80]), (18, [6]), (19, [0, 1, 7, 8, 14, 15, 16]), (20, [0, 1, 7, 8, 14, 15, 16, 83]), (21, [0, 1, 7, 8, 14, 15, 16]), (22, [0, 1, 7, 8, 14, 15, 16, 96]), (23, [6]), (24, [1, 7, 8, 14, 15, 101]), (25, [6]), (26, [6])] ir6 [(.tmp 6)] :=
  ⟨Try.f6, _, Try.func6, rfl, by kernel_rfl, rfl, by kernel_rfl, by kernel_rfl⟩

/-- dataenclave/dataenclavelaw23.JournalGoes -/
def ir7 : RC :=
  (.seq
   (.reg 0 none [0, 1, 2] [
     ⟨(some 6), none, (.mv (.k (.v (.bool false))))⟩])
   (.seq
    (.seq
     (.reg 1 none [0, 1, 2, 22] [
       ⟨(some 15), none, (.mv (.t 0))⟩,
       ⟨(some 16), none, (.lenL (.t 15))⟩,
       ⟨(some 17), none, (.bin .gtr false (.t 16) (.k (.v (.int .i64 300))))⟩,
       ⟨(some 18), none, (.mv (.t 17))⟩,
       ⟨(some 19), (some (18, false)), (.mv (.t 1))⟩,
       ⟨(some 20), (some (18, false)), (.lenL (.t 19))⟩,
       ⟨(some 21), (some (18, false)), (.bin .gtr false (.t 20) (.k (.v (.int .i64 300))))⟩,
       ⟨(some 22), none, (.pick (.t 18) (.k (.v (.bool true))) (.t 21))⟩])
     (.cond (.t 22)
      (.seq
       (.reg 2 none [6] [
         ⟨(some 23), none, (.call (.k (.clo 8 [])) [])⟩,
         ⟨(some 6), none, (.mv (.t 23))⟩])
       .ret)
      .skip))
    (.seq
     (.reg 3 none [1, 2, 7, 8] [
       ⟨(some 25), none, (.build [(.v (.slice none 0 0)), (.v (.slice none 0 0))] [])⟩,
       ⟨(some 26), none, (.mv (.t 0))⟩,
       ⟨(some 27), none, (.call (.k (.clo 11 [])) [(.t 25), (.t 26)])⟩,
       ⟨(some 24), none, (.mv (.t 27))⟩,
       ⟨(some 28), none, (.ex (.t 24) 0)⟩,
       ⟨(some 29), none, (.ex (.t 24) 1)⟩,
       ⟨(some 7), none, (.new (.agg [(.v (.slice none 0 0)), (.v (.slice none 0 0))]))⟩,
       ⟨none, none, (.st 2 (.t 7) (.t 28))⟩,
       ⟨(some 8), none, (.mv (.t 29))⟩])
     (.seq
      (.reg 4 none [1, 8, 9, 10] [
        ⟨(some 31), none, (.ld (some 2) (.t 7))⟩,
        ⟨(some 32), none, (.mv (.t 2))⟩,
        ⟨(some 33), none, (.call (.k (.clo 22 [])) [(.t 31), (.t 32)])⟩,
        ⟨(some 34), none, (.call (.k (.clo 15 [])) [(.t 33)])⟩,
        ⟨(some 30), none, (.mv (.t 34))⟩,
        ⟨(some 35), none, (.ex (.t 30) 0)⟩,
        ⟨(some 36), none, (.ex (.t 30) 1)⟩,
        ⟨(some 9), none, (.new (.agg [(.v (.slice none 0 0)), (.v (.slice none 0 0))]))⟩,
        ⟨none, none, (.st 2 (.t 9) (.t 35))⟩,
        ⟨(some 10), none, (.mv (.t 36))⟩])
      (.seq
       (.reg 5 none [1, 8, 10, 11, 12] [
         ⟨(some 38), none, (.ld (some 2) (.t 9))⟩,
         ⟨(some 39), none, (.mv (.t 1))⟩,
         ⟨(some 40), none, (.call (.k (.clo 11 [])) [(.t 38), (.t 39)])⟩,
         ⟨(some 37), none, (.mv (.t 40))⟩,
         ⟨(some 41), none, (.ex (.t 37) 0)⟩,
         ⟨(some 42), none, (.ex (.t 37) 1)⟩,
         ⟨(some 11), none, (.new (.agg [(.v (.slice none 0 0)), (.v (.slice none 0 0))]))⟩,
         ⟨none, none, (.st 2 (.t 11) (.t 41))⟩,
         ⟨(some 12), none, (.mv (.t 42))⟩])
       (.seq
        (.reg 6 none [1, 8, 10, 12, 14] [
          ⟨(some 44), none, (.ld (some 2) (.t 11))⟩,
          ⟨(some 45), none, (.call (.k (.clo 20 [])) [(.t 44)])⟩,
          ⟨(some 46), none, (.call (.k (.clo 15 [])) [(.t 45)])⟩,
          ⟨(some 43), none, (.mv (.t 46))⟩,
          ⟨(some 47), none, (.ex (.t 43) 0)⟩,
          ⟨(some 48), none, (.ex (.t 43) 1)⟩,
          ⟨(some 13), none, (.new (.agg [(.v (.slice none 0 0)), (.v (.slice none 0 0))]))⟩,
          ⟨none, none, (.st 2 (.t 13) (.t 47))⟩,
          ⟨(some 14), none, (.mv (.t 48))⟩])
        (.seq
         (.reg 7 (some [0, 1, 3, 7, 15, 31, 63, 127, 255, 127, 639, 1663, 4095, 8191, 16383, 32767, 32767, 98303, 229375, 524287, 1048575, 2097151, 32767, 4227071, 16777215, 33554431, 67108863, 134217727, 268435455, 536870911]) [6] [
           ⟨(some 49), none, (.mv (.t 8))⟩,
           ⟨(some 50), none, (.bin .eql false (.t 49) (.k (.v (.int .i64 0))))⟩,
           ⟨(some 51), none, (.mv (.t 50))⟩,
           ⟨(some 52), (some (51, true)), (.mv (.t 12))⟩,
           ⟨(some 53), (some (51, true)), (.bin .eql false (.t 52) (.k (.v (.int .i64 0))))⟩,
           ⟨(some 54), none, (.pick (.t 51) (.t 53) (.k (.v (.bool false))))⟩,
           ⟨(some 55), none, (.mv (.t 54))⟩,
           ⟨(some 56), (some (55, true)), (.mv (.t 14))⟩,
           ⟨(some 57), (some (55, true)), (.lenL (.t 56))⟩,
           ⟨(some 58), (some (55, true)), (.mv (.t 10))⟩,
           ⟨(some 59), (some (55, true)), (.lenL (.t 58))⟩,
           ⟨(some 60), (some (55, true)), (.bin .add false (.t 59) (.k (.v (.int .i64 1))))⟩,
           ⟨(some 61), (some (55, true)), (.bin .eql false (.t 57) (.t 60))⟩,
           ⟨(some 62), none, (.pick (.t 55) (.t 61) (.k (.v (.bool false))))⟩,
           ⟨(some 63), none, (.mv (.t 62))⟩,
           ⟨(some 64), (some (63, true)), (.mv (.t 14))⟩,
           ⟨(some 65), (some (63, true)), (.mv (.t 14))⟩,
           ⟨(some 66), (some (63, true)), (.lenL (.t 65))⟩,
           ⟨(some 67), (some (63, true)), (.bin .sub false (.t 66) (.k (.v (.int .i64 1))))⟩,
           ⟨(some 68), (some (63, true)), (.ixL 1 (.t 64) (.t 67))⟩,
           ⟨(some 69), (some (63, true)), (.ld none (.t 68))⟩,
           ⟨(some 70), (some (63, true)), (.cvBS (.t 69))⟩,
           ⟨(some 71), (some (63, true)), (.mv (.t 1))⟩,
           ⟨(some 72), (some (63, true)), (.cvBS (.t 71))⟩,
           ⟨(some 73), (some (63, true)), (.bin .eql false (.t 70) (.t 72))⟩,
           ⟨(some 74), none, (.pick (.t 63) (.t 73) (.k (.v (.bool false))))⟩,
           ⟨(some 75), none, (.mv (.t 74))⟩,
           ⟨(some 76), (some (75, true)), (.call (.k (.clo 8 [])) [])⟩,
           ⟨(some 77), none, (.pick (.t 75) (.t 76) (.k (.v (.bool false))))⟩,
           ⟨(some 6), none, (.mv (.t 77))⟩])
         .ret)))))))
theorem fn7 : FnIR Try.prog 7 78 [(0, [0, 1, 2]), (1, [0, 1, 2, 22]), (2, [6]), (3, [1, 2, 7, 8]), (4, [1, 8, 9, 10]), (5, [1, 8, 10, 11, 12]), (6, [1, 8, 10, 12, 14]), (7, [6])] ir7 [(.tmp 6)] :=
  ⟨Try.f7, _, Try.func7, rfl, by kernel_rfl, rfl, by kernel_rfl, by kernel_rfl⟩

/-- dataenclave/dataenclavelaw23.awake -/
def ir8 : RC :=
  (.seq
   (.reg 0 none [] [
     ⟨(some 0), none, (.mv (.k (.v (.bool false))))⟩])
   (.seq
    (.reg 1 none [1, 2] [
      ⟨(some 6), none, (.bsl 1 1 [(.k (.v (.int .u8 5)))])⟩,
      ⟨(some 7), none, (.call (.k (.clo 9 [])) [(.t 6)])⟩,
      ⟨(some 5), none, (.mv (.t 7))⟩,
      ⟨(some 8), none, (.ex (.t 5) 0)⟩,
      ⟨(some 9), none, (.ex (.t 5) 1)⟩,
      ⟨(some 1), none, (.mv (.t 8))⟩,
      ⟨(some 2), none, (.mv (.t 9))⟩])
    (.seq
     (.reg 2 (some [0, 0, 3, 0, 0, 16, 48, 120, 255, 511, 1023, 2047, 4095, 4095, 0, 24575, 65535]) [1, 2, 4] [
       ⟨(some 11), none, (.bsl 1 0 [])⟩,
       ⟨(some 12), none, (.mv (.t 1))⟩,
       ⟨(some 13), none, (.app 1 1 false (.t 11) (.t 12))⟩,
       ⟨(some 14), none, (.mv (.t 1))⟩,
       ⟨(some 15), none, (.mv (.t 1))⟩,
       ⟨(some 16), none, (.lenL (.t 15))⟩,
       ⟨(some 17), none, (.mn [(.t 16), (.k (.v (.int .i64 8)))])⟩,
       ⟨(some 18), none, (.slL 1 (.t 14) none (some (.t 17)))⟩,
       ⟨(some 19), none, (.app 1 1 false (.t 13) (.t 18))⟩,
       ⟨(some 20), none, (.build [(.v (.slice none 0 0)), (.v (.slice none 0 0))] [((0, 1), (.t 19))])⟩,
       ⟨(some 21), none, (.call (.k (.clo 15 [])) [(.t 20)])⟩,
       ⟨(some 10), none, (.mv (.t 21))⟩,
       ⟨(some 22), none, (.ex (.t 10) 0)⟩,
       ⟨(some 23), none, (.ex (.t 10) 1)⟩,
       ⟨(some 3), none, (.new (.agg [(.v (.slice none 0 0)), (.v (.slice none 0 0))]))⟩,
       ⟨none, none, (.st 2 (.t 3) (.t 22))⟩,
       ⟨(some 4), none, (.mv (.t 23))⟩])
     (.seq
      (.reg 3 none [0] [
        ⟨(some 24), none, (.mv (.t 2))⟩,
        ⟨(some 25), none, (.bin .eql false (.t 24) (.k (.v (.int .i64 0))))⟩,
        ⟨(some 26), none, (.mv (.t 25))⟩,
        ⟨(some 27), (some (26, true)), (.mv (.t 1))⟩,
        ⟨(some 28), (some (26, true)), (.cvBS (.t 27))⟩,
        ⟨(some 29), (some (26, true)), (.bin .eql false (.t 28) (.k (.v (.string ⟨#[0, 0, 0, 1, 5, 0, 0, 0, 29]⟩))))⟩,
        ⟨(some 30), none, (.pick (.t 26) (.t 29) (.k (.v (.bool false))))⟩,
        ⟨(some 31), none, (.mv (.t 30))⟩,
        ⟨(some 32), (some (31, true)), (.mv (.t 4))⟩,
        ⟨(some 33), (some (31, true)), (.lenL (.t 32))⟩,
        ⟨(some 34), (some (31, true)), (.bin .eql false (.t 33) (.k (.v (.int .i64 1))))⟩,
        ⟨(some 35), none, (.pick (.t 31) (.t 34) (.k (.v (.bool false))))⟩,
        ⟨(some 36), none, (.mv (.t 35))⟩,
        ⟨(some 37), (some (36, true)), (.mv (.t 4))⟩,
        ⟨(some 38), (some (36, true)), (.ixL 1 (.t 37) (.k (.v (.int .i64 0))))⟩,
        ⟨(some 39), (some (36, true)), (.ld none (.t 38))⟩,
        ⟨(some 40), (some (36, true)), (.cvBS (.t 39))⟩,
        ⟨(some 41), (some (36, true)), (.bin .eql false (.t 40) (.k (.v (.string ⟨#[5]⟩))))⟩,
        ⟨(some 42), none, (.pick (.t 36) (.t 41) (.k (.v (.bool false))))⟩,
        ⟨(some 0), none, (.mv (.t 42))⟩])
      .ret))))
theorem fn8 : FnIR Try.prog 8 43 [(1, [1, 2]), (2, [1, 2, 4]), (3, [0])] ir8 [(.tmp 0)] :=
  ⟨Try.f8, _, Try.func8, rfl, by kernel_rfl, rfl, by kernel_rfl, by kernel_rfl⟩

/-- dataenclave/journal.Frame -/
def ir9 : RC :=
  (.seq
   (.reg 0 none [0] [
     ⟨(some 2), none, (.mv (.k (.v (.slice none 0 0))))⟩,
     ⟨(some 3), none, (.mv (.k (.v (.int .i64 0))))⟩])
   (.seq
    (.seq
     (.reg 1 none [0, 7] [
       ⟨(some 5), none, (.mv (.t 0))⟩,
       ⟨(some 6), none, (.lenL (.t 5))⟩,
       ⟨(some 7), none, (.bin .gtr false (.t 6) (.k (.v (.int .i64 4096))))⟩])
     (.cond (.t 7)
      (.seq
       (.reg 2 none [2, 3] [
         ⟨(some 2), none, (.mv (.k (.v (.slice none 0 0))))⟩,
         ⟨(some 3), none, (.mv (.k (.v (.int .i64 1))))⟩])
       .ret)
      .skip))
    (.seq
     (.reg 3 none [4] [
       ⟨(some 8), none, (.mv (.t 0))⟩,
       ⟨(some 9), none, (.lenL (.t 8))⟩,
       ⟨(some 10), none, (.call (.k (.clo 24 [])) [(.k (.v (.slice none 0 0))), (.t 9)])⟩,
       ⟨(some 11), none, (.mv (.t 0))⟩,
       ⟨(some 12), none, (.app 1 1 false (.t 10) (.t 11))⟩,
       ⟨(some 4), none, (.mv (.t 12))⟩])
     (.seq
      (.reg 4 none [2, 3] [
        ⟨(some 13), none, (.mv (.t 4))⟩,
        ⟨(some 14), none, (.mv (.t 4))⟩,
        ⟨(some 15), none, (.call (.k (.clo 25 [])) [(.t 14)])⟩,
        ⟨(some 16), none, (.call (.k (.clo 24 [])) [(.t 13), (.t 15)])⟩,
        ⟨(some 2), none, (.mv (.t 16))⟩,
        ⟨(some 3), none, (.mv (.k (.v (.int .i64 0))))⟩])
      .ret))))
theorem fn9 : FnIR Try.prog 9 17 [(0, [0]), (1, [0, 7]), (2, [2, 3]), (3, [4]), (4, [2, 3])] ir9 [(.tmp 2), (.tmp 3)] :=
  ⟨Try.f9, _, Try.func9, rfl, by kernel_rfl, rfl, by kernel_rfl, by kernel_rfl⟩

/-- dataenclave/journal.Read -/
def ir10 : RC :=
  (.seq
   (.reg 0 none [0] [
     ⟨(some 2), none, (.mv (.k (.v (.slice none 0 0))))⟩,
     ⟨(some 3), none, (.mv (.k (.v (.int .i64 0))))⟩])
   (.scope
    (.seq
     (.reg 1 none [0, 4] [
       ⟨(some 4), none, (.mv (.k (.v (.slice none 0 0))))⟩])
     (.seq
      (.reg 2 none [0, 4, 5] [
        ⟨(some 5), none, (.mv (.k (.v (.int .i64 0))))⟩])
      (.seq
       .skip
       (.seq
        (.block 0
         (.loop
          (.block 1
           (.seq
            (.reg 3 none [0, 4, 5, 6] [
              ⟨(some 8), none, (.mv (.t 0))⟩,
              ⟨(some 9), none, (.mv (.t 5))⟩,
              ⟨(some 10), none, (.slL 1 (.t 8) (some (.t 9)) none)⟩,
              ⟨(some 6), none, (.mv (.t 10))⟩])
            (.seq
             (.seq
              (.reg 4 none [0, 4, 5, 6, 13] [
                ⟨(some 11), none, (.mv (.t 6))⟩,
                ⟨(some 12), none, (.lenL (.t 11))⟩,
                ⟨(some 13), none, (.bin .lss false (.t 12) (.k (.v (.int .i64 8))))⟩])
              (.cond (.t 13)
               (.exit 0)
               .skip))
             (.seq
              (.reg 5 none [0, 4, 5, 6, 7] [
                ⟨(some 14), none, (.mv (.t 6))⟩,
                ⟨(some 15), none, (.call (.k (.clo 26 [])) [(.t 14)])⟩,
                ⟨(some 7), none, (.mv (.t 15))⟩])
              (.seq
               (.seq
                (.reg 6 (some [0, 1, 3, 7, 15, 7, 39, 127, 255, 511, 1023, 1023, 3071, 8191, 16383, 1023, 1023, 66559, 230399, 524287, 1048575, 2097151]) [0, 4, 5, 6, 7, 37] [
                  ⟨(some 16), none, (.mv (.t 7))⟩,
                  ⟨(some 17), none, (.bin .gtr false (.t 16) (.k (.v (.int .i64 4096))))⟩,
                  ⟨(some 18), none, (.mv (.t 17))⟩,
                  ⟨(some 19), (some (18, false)), (.mv (.t 6))⟩,
                  ⟨(some 20), (some (18, false)), (.lenL (.t 19))⟩,
                  ⟨(some 21), (some (18, false)), (.mv (.t 7))⟩,
                  ⟨(some 22), (some (18, false)), (.bin .add false (.t 21) (.k (.v (.int .i64 8))))⟩,
                  ⟨(some 23), (some (18, false)), (.bin .lss false (.t 20) (.t 22))⟩,
                  ⟨(some 24), none, (.pick (.t 18) (.k (.v (.bool true))) (.t 23))⟩,
                  ⟨(some 25), none, (.mv (.t 24))⟩,
                  ⟨(some 26), (some (25, false)), (.mv (.t 6))⟩,
                  ⟨(some 27), (some (25, false)), (.mv (.t 7))⟩,
                  ⟨(some 28), (some (25, false)), (.bin .add false (.k (.v (.int .i64 4))) (.t 27))⟩,
                  ⟨(some 29), (some (25, false)), (.slL 1 (.t 26) (some (.t 28)) none)⟩,
                  ⟨(some 30), (some (25, false)), (.call (.k (.clo 26 [])) [(.t 29)])⟩,
                  ⟨(some 31), (some (25, false)), (.mv (.t 6))⟩,
                  ⟨(some 32), (some (25, false)), (.mv (.t 7))⟩,
                  ⟨(some 33), (some (25, false)), (.bin .add false (.k (.v (.int .i64 4))) (.t 32))⟩,
                  ⟨(some 34), (some (25, false)), (.slL 1 (.t 31) none (some (.t 33)))⟩,
                  ⟨(some 35), (some (25, false)), (.call (.k (.clo 25 [])) [(.t 34)])⟩,
                  ⟨(some 36), (some (25, false)), (.bin .neq false (.t 30) (.t 35))⟩,
                  ⟨(some 37), none, (.pick (.t 25) (.k (.v (.bool true))) (.t 36))⟩])
                (.cond (.t 37)
                 (.exit 0)
                 .skip))
               (.seq
                (.reg 7 none [0, 4, 5, 7] [
                  ⟨(some 38), none, (.mv (.t 4))⟩,
                  ⟨(some 39), none, (.mv (.t 6))⟩,
                  ⟨(some 40), none, (.mv (.t 7))⟩,
                  ⟨(some 41), none, (.bin .add false (.k (.v (.int .i64 4))) (.t 40))⟩,
                  ⟨(some 42), none, (.slL 1 (.t 39) (some (.k (.v (.int .i64 4)))) (some (.t 41)))⟩,
                  ⟨(some 43), none, (.call (.k (.clo 27 [])) [(.t 42)])⟩,
                  ⟨(some 44), none, (.bsl 1 1 [(.t 43)])⟩,
                  ⟨(some 45), none, (.app 1 24 false (.t 38) (.t 44))⟩,
                  ⟨(some 4), none, (.mv (.t 45))⟩])
                (.reg 8 none [0, 4, 5] [
                  ⟨(some 46), none, (.mv (.t 5))⟩,
                  ⟨(some 47), none, (.mv (.t 7))⟩,
                  ⟨(some 48), none, (.bin .add false (.t 47) (.k (.v (.int .i64 8))))⟩,
                  ⟨(some 49), none, (.bin .add false (.t 46) (.t 48))⟩,
                  ⟨(some 5), none, (.mv (.t 49))⟩])))))))))
        (.seq
         (.reg 9 none [2, 3] [
           ⟨(some 50), none, (.mv (.t 4))⟩,
           ⟨(some 51), none, (.mv (.t 5))⟩,
           ⟨(some 2), none, (.mv (.t 50))⟩,
           ⟨(some 3), none, (.mv (.t 51))⟩])
         .ret)))))))
theorem fn10 : FnIR Try.prog 10 52 [(0, [0]), (1, [0, 4]), (2, [0, 4, 5]), (3, [0, 4, 5, 6]), (4, [0, 4, 5, 6, 13]), (5, [0, 4, 5, 6, 7]), (6, [0, 4, 5, 6, 7, 37]), (7, [0, 4, 5, 7]), (8, [0, 4, 5]), (9, [2, 3])] ir10 [(.tmp 2), (.tmp 3)] :=
  ⟨Try.f10, _, Try.func10, rfl, by kernel_rfl, rfl, by kernel_rfl, by kernel_rfl⟩

/-- dataenclave/journal.Append -/
def ir11 : RC :=
  (.seq
   (.reg 0 none [1, 2, 4] [
     ⟨(some 2), none, (.box (.t 0))⟩,
     ⟨(some 4), none, (.new (.agg [(.v (.slice none 0 0)), (.v (.slice none 0 0))]))⟩,
     ⟨(some 5), none, (.mv (.k (.v (.int .i64 0))))⟩])
   (.seq
    (.reg 1 none [1, 2, 4, 6] [
      ⟨(some 11), none, (.ld (some 2) (.t 2))⟩,
      ⟨(some 12), none, (.call (.k (.clo 28 [])) [(.t 11)])⟩,
      ⟨(some 6), none, (.new (.agg [(.v (.slice none 0 0)), (.v (.slice none 0 0))]))⟩,
      ⟨none, none, (.st 2 (.t 6) (.t 12))⟩])
    (.seq
     (.reg 2 none [2, 4, 6, 7, 8] [
       ⟨(some 14), none, (.mv (.t 1))⟩,
       ⟨(some 15), none, (.call (.k (.clo 9 [])) [(.t 14)])⟩,
       ⟨(some 13), none, (.mv (.t 15))⟩,
       ⟨(some 16), none, (.ex (.t 13) 0)⟩,
       ⟨(some 17), none, (.ex (.t 13) 1)⟩,
       ⟨(some 7), none, (.mv (.t 16))⟩,
       ⟨(some 8), none, (.mv (.t 17))⟩])
     (.seq
      (.seq
       (.reg 3 none [2, 4, 6, 7, 8, 19] [
         ⟨(some 18), none, (.mv (.t 8))⟩,
         ⟨(some 19), none, (.bin .neq false (.t 18) (.k (.v (.int .i64 0))))⟩])
       (.cond (.t 19)
        (.seq
         (.reg 4 none [4, 5] [
           ⟨(some 20), none, (.ld (some 2) (.t 6))⟩,
           ⟨(some 21), none, (.mv (.t 8))⟩,
           ⟨none, none, (.st 2 (.t 4) (.t 20))⟩,
           ⟨(some 5), none, (.mv (.t 21))⟩])
         .ret)
        .skip))
      (.seq
       (.seq
        (.reg 5 none [2, 4, 6, 7, 10] [
          ⟨(some 23), none, (.fa 0 (.t 2))⟩,
          ⟨(some 24), none, (.ld none (.t 23))⟩,
          ⟨(some 25), none, (.call (.k (.clo 10 [])) [(.t 24)])⟩,
          ⟨(some 22), none, (.mv (.t 25))⟩,
          ⟨(some 26), none, (.ex (.t 22) 0)⟩,
          ⟨(some 27), none, (.ex (.t 22) 1)⟩,
          ⟨(some 9), none, (.mv (.t 26))⟩,
          ⟨(some 10), none, (.mv (.t 27))⟩])
        (.seq
         (.reg 6 none [2, 4, 6, 7, 32] [
           ⟨(some 28), none, (.mv (.t 10))⟩,
           ⟨(some 29), none, (.fa 0 (.t 2))⟩,
           ⟨(some 30), none, (.ld none (.t 29))⟩,
           ⟨(some 31), none, (.lenL (.t 30))⟩,
           ⟨(some 32), none, (.bin .neq false (.t 28) (.t 31))⟩])
         (.cond (.t 32)
          (.seq
           (.reg 7 none [4, 5] [
             ⟨(some 33), none, (.ld (some 2) (.t 6))⟩,
             ⟨none, none, (.st 2 (.t 4) (.t 33))⟩,
             ⟨(some 5), none, (.mv (.k (.v (.int .i64 40))))⟩])
           .ret)
          .skip)))
       (.seq
        (.seq
         (.reg 8 none [2, 4, 6, 7, 44] [
           ⟨(some 34), none, (.fa 0 (.t 2))⟩,
           ⟨(some 35), none, (.ld none (.t 34))⟩,
           ⟨(some 36), none, (.lenL (.t 35))⟩,
           ⟨(some 37), none, (.fa 1 (.t 2))⟩,
           ⟨(some 38), none, (.ld none (.t 37))⟩,
           ⟨(some 39), none, (.lenL (.t 38))⟩,
           ⟨(some 40), none, (.bin .add false (.t 36) (.t 39))⟩,
           ⟨(some 41), none, (.mv (.t 7))⟩,
           ⟨(some 42), none, (.lenL (.t 41))⟩,
           ⟨(some 43), none, (.bin .add false (.t 40) (.t 42))⟩,
           ⟨(some 44), none, (.bin .gtr false (.t 43) (.k (.v (.int .i64 262144))))⟩])
         (.cond (.t 44)
          (.seq
           (.reg 9 none [4, 5] [
             ⟨(some 45), none, (.ld (some 2) (.t 6))⟩,
             ⟨none, none, (.st 2 (.t 4) (.t 45))⟩,
             ⟨(some 5), none, (.mv (.k (.v (.int .i64 42))))⟩])
           .ret)
          .skip))
        (.seq
         (.reg 10 none [4, 6] [
           ⟨(some 46), none, (.fa 1 (.t 2))⟩,
           ⟨(some 47), none, (.ld none (.t 46))⟩,
           ⟨(some 48), none, (.mv (.t 7))⟩,
           ⟨(some 49), none, (.call (.k (.clo 29 [])) [(.t 47), (.t 48)])⟩,
           ⟨(some 50), none, (.fa 1 (.t 6))⟩,
           ⟨none, none, (.st 1 (.t 50) (.t 49))⟩])
         (.seq
          (.reg 11 none [4, 5] [
            ⟨(some 51), none, (.ld (some 2) (.t 6))⟩,
            ⟨none, none, (.st 2 (.t 4) (.t 51))⟩,
            ⟨(some 5), none, (.mv (.k (.v (.int .i64 0))))⟩])
          .ret))))))))
theorem fn11 : FnIR Try.prog 11 52 [(0, [1, 2, 4]), (1, [1, 2, 4, 6]), (2, [2, 4, 6, 7, 8]), (3, [2, 4, 6, 7, 8, 19]), (4, [4, 5]), (5, [2, 4, 6, 7, 10]), (6, [2, 4, 6, 7, 32]), (7, [4, 5]), (8, [2, 4, 6, 7, 44]), (9, [4, 5]), (10, [4, 6]), (11, [4, 5])] ir11 [(.cell 4 (some 2)), (.tmp 5)] :=
  ⟨Try.f11, _, Try.func11, rfl, by kernel_rfl, rfl, by kernel_rfl, by kernel_rfl⟩

/-- dataenclave/dataenclavelaw23.size -/
def ir12 : RC :=
  (.seq
   (.reg 0 none [0] [
     ⟨(some 2), none, (.mv (.k (.v (.bool false))))⟩])
   (.seq
    (.seq
     (.reg 1 none [5, 6, 7] [
       ⟨(some 5), none, (.mv (.t 0))⟩,
       ⟨(some 6), none, (.lenL (.t 5))⟩,
       ⟨(some 7), none, (.mv (.k (.v (.int .i64 0))))⟩])
     (.block 0
      (.loop
       (.seq
        (.reg 2 none [5, 6, 7, 8] [
          ⟨(some 8), none, (.bin .lss false (.t 7) (.t 6))⟩])
        (.seq
         (.cond (.t 8)
          .skip
          (.exit 0))
         (.seq
          (.block 1
           (.seq
            (.reg 3 none [4, 5, 6, 7] [
              ⟨(some 9), none, (.ixL 1 (.t 5) (.t 7))⟩,
              ⟨(some 10), none, (.ld none (.t 9))⟩,
              ⟨(some 4), none, (.mv (.t 10))⟩])
            (.seq
             (.reg 4 none [5, 6, 7, 13] [
               ⟨(some 11), none, (.mv (.t 4))⟩,
               ⟨(some 12), none, (.lenL (.t 11))⟩,
               ⟨(some 13), none, (.bin .gtr false (.t 12) (.k (.v (.int .i64 4000))))⟩])
             (.cond (.t 13)
              (.seq
               (.reg 5 none [2] [
                 ⟨(some 2), none, (.mv (.k (.v (.bool false))))⟩])
               .ret)
              .skip))))
          (.reg 6 none [5, 6, 7] [
            ⟨(some 14), none, (.bin .add false (.t 7) (.k (.v (.int .i64 1))))⟩,
            ⟨(some 7), none, (.mv (.t 14))⟩])))))))
    (.seq
     (.reg 7 none [2] [
       ⟨(some 2), none, (.mv (.k (.v (.bool true))))⟩])
     .ret)))
theorem fn12 : FnIR Try.prog 12 15 [(0, [0]), (1, [5, 6, 7]), (2, [5, 6, 7, 8]), (3, [4, 5, 6, 7]), (4, [5, 6, 7, 13]), (5, [2]), (6, [5, 6, 7]), (7, [2])] ir12 [(.tmp 2)] :=
  ⟨Try.f12, _, Try.func12, rfl, by kernel_rfl, rfl, by kernel_rfl, by kernel_rfl⟩

/-- dataenclave/dataenclaveref23.Frame -/
def ir13 : RC :=
  (.seq
   (.reg 0 none [0] [
     ⟨(some 2), none, (.mv (.k (.v (.slice none 0 0))))⟩,
     ⟨(some 3), none, (.mv (.k (.v (.int .i64 0))))⟩])
   (.seq
    (.seq
     (.reg 1 none [0, 7] [
       ⟨(some 5), none, (.mv (.t 0))⟩,
       ⟨(some 6), none, (.lenL (.t 5))⟩,
       ⟨(some 7), none, (.bin .gtr false (.t 6) (.k (.v (.int .i64 4096))))⟩])
     (.cond (.t 7)
      (.seq
       (.reg 2 none [2, 3] [
         ⟨(some 2), none, (.mv (.k (.v (.slice none 0 0))))⟩,
         ⟨(some 3), none, (.mv (.k (.v (.int .i64 1))))⟩])
       .ret)
      .skip))
    (.seq
     (.reg 3 none [4] [
       ⟨(some 8), none, (.mv (.t 0))⟩,
       ⟨(some 9), none, (.lenL (.t 8))⟩,
       ⟨(some 10), none, (.call (.k (.clo 30 [])) [(.t 9)])⟩,
       ⟨(some 11), none, (.mv (.t 0))⟩,
       ⟨(some 12), none, (.app 1 1 false (.t 10) (.t 11))⟩,
       ⟨(some 4), none, (.mv (.t 12))⟩])
     (.seq
      (.reg 4 none [2, 3] [
        ⟨(some 13), none, (.mv (.t 4))⟩,
        ⟨(some 14), none, (.mv (.t 4))⟩,
        ⟨(some 15), none, (.call (.k (.clo 31 [])) [(.t 14)])⟩,
        ⟨(some 16), none, (.call (.k (.clo 30 [])) [(.t 15)])⟩,
        ⟨(some 17), none, (.app 1 1 false (.t 13) (.t 16))⟩,
        ⟨(some 2), none, (.mv (.t 17))⟩,
        ⟨(some 3), none, (.mv (.k (.v (.int .i64 0))))⟩])
      .ret))))
theorem fn13 : FnIR Try.prog 13 18 [(0, [0]), (1, [0, 7]), (2, [2, 3]), (3, [4]), (4, [2, 3])] ir13 [(.tmp 2), (.tmp 3)] :=
  ⟨Try.f13, _, Try.func13, rfl, by kernel_rfl, rfl, by kernel_rfl, by kernel_rfl⟩

/-- dataenclave/dataenclaveref23.Append -/
def ir14 : RC :=
  (.seq
   (.reg 0 none [1, 2, 4] [
     ⟨(some 2), none, (.box (.t 0))⟩,
     ⟨(some 4), none, (.new (.agg [(.v (.slice none 0 0)), (.v (.slice none 0 0))]))⟩,
     ⟨(some 5), none, (.mv (.k (.v (.int .i64 0))))⟩])
   (.seq
    (.reg 1 none [2, 4, 6, 7] [
      ⟨(some 12), none, (.mv (.t 1))⟩,
      ⟨(some 13), none, (.call (.k (.clo 13 [])) [(.t 12)])⟩,
      ⟨(some 11), none, (.mv (.t 13))⟩,
      ⟨(some 14), none, (.ex (.t 11) 0)⟩,
      ⟨(some 15), none, (.ex (.t 11) 1)⟩,
      ⟨(some 6), none, (.mv (.t 14))⟩,
      ⟨(some 7), none, (.mv (.t 15))⟩])
    (.seq
     (.seq
      (.reg 2 none [2, 4, 6, 7, 17] [
        ⟨(some 16), none, (.mv (.t 7))⟩,
        ⟨(some 17), none, (.bin .neq false (.t 16) (.k (.v (.int .i64 0))))⟩])
      (.cond (.t 17)
       (.seq
        (.reg 3 none [4, 5] [
          ⟨(some 18), none, (.ld (some 2) (.t 2))⟩,
          ⟨(some 19), none, (.call (.k (.clo 32 [])) [(.t 18)])⟩,
          ⟨(some 20), none, (.mv (.t 7))⟩,
          ⟨none, none, (.st 2 (.t 4) (.t 19))⟩,
          ⟨(some 5), none, (.mv (.t 20))⟩])
        .ret)
       .skip))
     (.seq
      (.seq
       (.reg 4 none [2, 4, 6, 9] [
         ⟨(some 22), none, (.fa 0 (.t 2))⟩,
         ⟨(some 23), none, (.ld none (.t 22))⟩,
         ⟨(some 24), none, (.call (.k (.clo 17 [])) [(.t 23)])⟩,
         ⟨(some 21), none, (.mv (.t 24))⟩,
         ⟨(some 25), none, (.ex (.t 21) 0)⟩,
         ⟨(some 26), none, (.ex (.t 21) 1)⟩,
         ⟨(some 8), none, (.mv (.t 25))⟩,
         ⟨(some 9), none, (.mv (.t 26))⟩])
       (.seq
        (.reg 5 none [2, 4, 6, 31] [
          ⟨(some 27), none, (.mv (.t 9))⟩,
          ⟨(some 28), none, (.fa 0 (.t 2))⟩,
          ⟨(some 29), none, (.ld none (.t 28))⟩,
          ⟨(some 30), none, (.lenL (.t 29))⟩,
          ⟨(some 31), none, (.bin .neq false (.t 27) (.t 30))⟩])
        (.cond (.t 31)
         (.seq
          (.reg 6 none [4, 5] [
            ⟨(some 32), none, (.ld (some 2) (.t 2))⟩,
            ⟨(some 33), none, (.call (.k (.clo 32 [])) [(.t 32)])⟩,
            ⟨none, none, (.st 2 (.t 4) (.t 33))⟩,
            ⟨(some 5), none, (.mv (.k (.v (.int .i64 40))))⟩])
          .ret)
         .skip)))
      (.seq
       (.seq
        (.reg 7 none [2, 4, 6, 44] [
          ⟨(some 34), none, (.fa 0 (.t 2))⟩,
          ⟨(some 35), none, (.ld none (.t 34))⟩,
          ⟨(some 36), none, (.lenL (.t 35))⟩,
          ⟨(some 37), none, (.fa 1 (.t 2))⟩,
          ⟨(some 38), none, (.ld none (.t 37))⟩,
          ⟨(some 39), none, (.lenL (.t 38))⟩,
          ⟨(some 40), none, (.bin .add false (.t 36) (.t 39))⟩,
          ⟨(some 41), none, (.mv (.t 6))⟩,
          ⟨(some 42), none, (.lenL (.t 41))⟩,
          ⟨(some 43), none, (.bin .add false (.t 40) (.t 42))⟩,
          ⟨(some 44), none, (.bin .gtr false (.t 43) (.k (.v (.int .i64 262144))))⟩])
        (.cond (.t 44)
         (.seq
          (.reg 8 none [4, 5] [
            ⟨(some 45), none, (.ld (some 2) (.t 2))⟩,
            ⟨(some 46), none, (.call (.k (.clo 32 [])) [(.t 45)])⟩,
            ⟨none, none, (.st 2 (.t 4) (.t 46))⟩,
            ⟨(some 5), none, (.mv (.k (.v (.int .i64 42))))⟩])
          .ret)
         .skip))
       (.seq
        (.reg 9 none [4, 6, 10] [
          ⟨(some 47), none, (.ld (some 2) (.t 2))⟩,
          ⟨(some 48), none, (.call (.k (.clo 32 [])) [(.t 47)])⟩,
          ⟨(some 10), none, (.new (.agg [(.v (.slice none 0 0)), (.v (.slice none 0 0))]))⟩,
          ⟨none, none, (.st 2 (.t 10) (.t 48))⟩])
        (.seq
         (.reg 10 none [4, 10] [
           ⟨(some 49), none, (.fa 1 (.t 10))⟩,
           ⟨(some 50), none, (.ld none (.t 49))⟩,
           ⟨(some 51), none, (.mv (.t 6))⟩,
           ⟨(some 52), none, (.app 1 1 false (.t 50) (.t 51))⟩,
           ⟨(some 53), none, (.fa 1 (.t 10))⟩,
           ⟨none, none, (.st 1 (.t 53) (.t 52))⟩])
         (.seq
          (.reg 11 none [4, 5] [
            ⟨(some 54), none, (.ld (some 2) (.t 10))⟩,
            ⟨none, none, (.st 2 (.t 4) (.t 54))⟩,
            ⟨(some 5), none, (.mv (.k (.v (.int .i64 0))))⟩])
          .ret))))))))
theorem fn14 : FnIR Try.prog 14 55 [(0, [1, 2, 4]), (1, [2, 4, 6, 7]), (2, [2, 4, 6, 7, 17]), (3, [4, 5]), (4, [2, 4, 6, 9]), (5, [2, 4, 6, 31]), (6, [4, 5]), (7, [2, 4, 6, 44]), (8, [4, 5]), (9, [4, 6, 10]), (10, [4, 10]), (11, [4, 5])] ir14 [(.cell 4 (some 2)), (.tmp 5)] :=
  ⟨Try.f14, _, Try.func14, rfl, by kernel_rfl, rfl, by kernel_rfl, by kernel_rfl⟩

/-- dataenclave/journal.Recover -/
def ir15 : RC :=
  (.seq
   (.reg 0 none [1, 2] [
     ⟨(some 1), none, (.box (.t 0))⟩,
     ⟨(some 2), none, (.new (.agg [(.v (.slice none 0 0)), (.v (.slice none 0 0))]))⟩,
     ⟨(some 3), none, (.mv (.k (.v (.slice none 0 0))))⟩])
   (.seq
    (.reg 1 none [1, 2, 4, 5] [
      ⟨(some 7), none, (.fa 0 (.t 1))⟩,
      ⟨(some 8), none, (.ld none (.t 7))⟩,
      ⟨(some 9), none, (.call (.k (.clo 10 [])) [(.t 8)])⟩,
      ⟨(some 6), none, (.mv (.t 9))⟩,
      ⟨(some 10), none, (.ex (.t 6) 0)⟩,
      ⟨(some 11), none, (.ex (.t 6) 1)⟩,
      ⟨(some 4), none, (.mv (.t 10))⟩,
      ⟨(some 5), none, (.mv (.t 11))⟩])
    (.seq
     (.reg 2 none [2, 3] [
       ⟨(some 12), none, (.fa 0 (.t 1))⟩,
       ⟨(some 13), none, (.ld none (.t 12))⟩,
       ⟨(some 14), none, (.mv (.t 5))⟩,
       ⟨(some 15), none, (.slL 1 (.t 13) none (some (.t 14)))⟩,
       ⟨(some 16), none, (.call (.k (.clo 27 [])) [(.t 15)])⟩,
       ⟨(some 17), none, (.build [(.v (.slice none 0 0)), (.v (.slice none 0 0))] [((0, 1), (.t 16))])⟩,
       ⟨(some 18), none, (.mv (.t 4))⟩,
       ⟨none, none, (.st 2 (.t 2) (.t 17))⟩,
       ⟨(some 3), none, (.mv (.t 18))⟩])
     .ret)))
theorem fn15 : FnIR Try.prog 15 19 [(0, [1, 2]), (1, [1, 2, 4, 5]), (2, [2, 3])] ir15 [(.cell 2 (some 2)), (.tmp 3)] :=
  ⟨Try.f15, _, Try.func15, rfl, by kernel_rfl, rfl, by kernel_rfl, by kernel_rfl⟩

/-- dataenclave/dataenclaveref23.Recover -/
def ir16 : RC :=
  (.seq
   (.reg 0 none [1, 2] [
     ⟨(some 1), none, (.box (.t 0))⟩,
     ⟨(some 2), none, (.new (.agg [(.v (.slice none 0 0)), (.v (.slice none 0 0))]))⟩,
     ⟨(some 3), none, (.mv (.k (.v (.slice none 0 0))))⟩])
   (.seq
    (.reg 1 none [1, 2, 4, 5] [
      ⟨(some 7), none, (.fa 0 (.t 1))⟩,
      ⟨(some 8), none, (.ld none (.t 7))⟩,
      ⟨(some 9), none, (.call (.k (.clo 17 [])) [(.t 8)])⟩,
      ⟨(some 6), none, (.mv (.t 9))⟩,
      ⟨(some 10), none, (.ex (.t 6) 0)⟩,
      ⟨(some 11), none, (.ex (.t 6) 1)⟩,
      ⟨(some 4), none, (.mv (.t 10))⟩,
      ⟨(some 5), none, (.mv (.t 11))⟩])
    (.seq
     (.reg 2 none [2, 3] [
       ⟨(some 12), none, (.bsl 1 0 [])⟩,
       ⟨(some 13), none, (.fa 0 (.t 1))⟩,
       ⟨(some 14), none, (.ld none (.t 13))⟩,
       ⟨(some 15), none, (.mv (.t 5))⟩,
       ⟨(some 16), none, (.slL 1 (.t 14) none (some (.t 15)))⟩,
       ⟨(some 17), none, (.app 1 1 false (.t 12) (.t 16))⟩,
       ⟨(some 18), none, (.build [(.v (.slice none 0 0)), (.v (.slice none 0 0))] [((0, 1), (.t 17))])⟩,
       ⟨(some 19), none, (.mv (.t 4))⟩,
       ⟨none, none, (.st 2 (.t 2) (.t 18))⟩,
       ⟨(some 3), none, (.mv (.t 19))⟩])
     .ret)))
theorem fn16 : FnIR Try.prog 16 20 [(0, [1, 2]), (1, [1, 2, 4, 5]), (2, [2, 3])] ir16 [(.cell 2 (some 2)), (.tmp 3)] :=
  ⟨Try.f16, _, Try.func16, rfl, by kernel_rfl, rfl, by kernel_rfl, by kernel_rfl⟩

/-- dataenclave/dataenclaveref23.Read -/
def ir17 : RC :=
  (.seq
   (.reg 0 none [0] [
     ⟨(some 2), none, (.mv (.k (.v (.slice none 0 0))))⟩,
     ⟨(some 3), none, (.mv (.k (.v (.int .i64 0))))⟩])
   (.seq
    (.reg 1 none [0, 4] [
      ⟨(some 4), none, (.mv (.k (.v (.slice none 0 0))))⟩])
    (.seq
     (.reg 2 none [0, 4, 5] [
       ⟨(some 5), none, (.mv (.k (.v (.int .i64 0))))⟩])
     (.seq
      (.block 0
       (.loop
        (.seq
         (.seq
          (.reg 3 none [0, 4, 5, 11] [
            ⟨(some 7), none, (.mv (.t 0))⟩,
            ⟨(some 8), none, (.lenL (.t 7))⟩,
            ⟨(some 9), none, (.mv (.t 5))⟩,
            ⟨(some 10), none, (.bin .sub false (.t 8) (.t 9))⟩,
            ⟨(some 11), none, (.bin .geq false (.t 10) (.k (.v (.int .i64 8))))⟩])
          (.cond (.t 11)
           .skip
           (.exit 0)))
         (.block 1
          (.seq
           (.reg 4 none [0, 4, 5, 6] [
             ⟨(some 12), none, (.mv (.t 0))⟩,
             ⟨(some 13), none, (.mv (.t 5))⟩,
             ⟨(some 14), none, (.slL 1 (.t 12) (some (.t 13)) none)⟩,
             ⟨(some 15), none, (.call (.k (.clo 33 [])) [(.t 14)])⟩,
             ⟨(some 6), none, (.mv (.t 15))⟩])
           (.seq
            (.seq
             (.reg 5 (some [0, 1, 3, 7, 15, 7, 39, 7, 231, 511, 1023, 2047, 4095, 4095, 12287, 4095, 61439, 131071, 262143, 4095, 4095, 4095, 2101247, 4095, 14684159, 33034239, 67108863, 134217727, 268435455]) [0, 4, 5, 6, 44] [
               ⟨(some 16), none, (.mv (.t 6))⟩,
               ⟨(some 17), none, (.bin .gtr false (.t 16) (.k (.v (.int .i64 4096))))⟩,
               ⟨(some 18), none, (.mv (.t 17))⟩,
               ⟨(some 19), (some (18, false)), (.mv (.t 6))⟩,
               ⟨(some 20), (some (18, false)), (.bin .add false (.t 19) (.k (.v (.int .i64 8))))⟩,
               ⟨(some 21), (some (18, false)), (.mv (.t 0))⟩,
               ⟨(some 22), (some (18, false)), (.lenL (.t 21))⟩,
               ⟨(some 23), (some (18, false)), (.mv (.t 5))⟩,
               ⟨(some 24), (some (18, false)), (.bin .sub false (.t 22) (.t 23))⟩,
               ⟨(some 25), (some (18, false)), (.bin .gtr false (.t 20) (.t 24))⟩,
               ⟨(some 26), none, (.pick (.t 18) (.k (.v (.bool true))) (.t 25))⟩,
               ⟨(some 27), none, (.mv (.t 26))⟩,
               ⟨(some 28), (some (27, false)), (.mv (.t 0))⟩,
               ⟨(some 29), (some (27, false)), (.mv (.t 5))⟩,
               ⟨(some 30), (some (27, false)), (.bin .add false (.t 29) (.k (.v (.int .i64 4))))⟩,
               ⟨(some 31), (some (27, false)), (.mv (.t 6))⟩,
               ⟨(some 32), (some (27, false)), (.bin .add false (.t 30) (.t 31))⟩,
               ⟨(some 33), (some (27, false)), (.slL 1 (.t 28) (some (.t 32)) none)⟩,
               ⟨(some 34), (some (27, false)), (.call (.k (.clo 33 [])) [(.t 33)])⟩,
               ⟨(some 35), (some (27, false)), (.mv (.t 0))⟩,
               ⟨(some 36), (some (27, false)), (.mv (.t 5))⟩,
               ⟨(some 37), (some (27, false)), (.mv (.t 5))⟩,
               ⟨(some 38), (some (27, false)), (.bin .add false (.t 37) (.k (.v (.int .i64 4))))⟩,
               ⟨(some 39), (some (27, false)), (.mv (.t 6))⟩,
               ⟨(some 40), (some (27, false)), (.bin .add false (.t 38) (.t 39))⟩,
               ⟨(some 41), (some (27, false)), (.slL 1 (.t 35) (some (.t 36)) (some (.t 40)))⟩,
               ⟨(some 42), (some (27, false)), (.call (.k (.clo 31 [])) [(.t 41)])⟩,
               ⟨(some 43), (some (27, false)), (.bin .neq false (.t 34) (.t 42))⟩,
               ⟨(some 44), none, (.pick (.t 27) (.k (.v (.bool true))) (.t 43))⟩])
             (.cond (.t 44)
              (.exit 0)
              .skip))
            (.seq
             (.reg 6 none [0, 4, 5, 6] [
               ⟨(some 45), none, (.mv (.t 4))⟩,
               ⟨(some 46), none, (.bsl 1 0 [])⟩,
               ⟨(some 47), none, (.mv (.t 0))⟩,
               ⟨(some 48), none, (.mv (.t 5))⟩,
               ⟨(some 49), none, (.bin .add false (.t 48) (.k (.v (.int .i64 4))))⟩,
               ⟨(some 50), none, (.mv (.t 5))⟩,
               ⟨(some 51), none, (.bin .add false (.t 50) (.k (.v (.int .i64 4))))⟩,
               ⟨(some 52), none, (.mv (.t 6))⟩,
               ⟨(some 53), none, (.bin .add false (.t 51) (.t 52))⟩,
               ⟨(some 54), none, (.slL 1 (.t 47) (some (.t 49)) (some (.t 53)))⟩,
               ⟨(some 55), none, (.app 1 1 false (.t 46) (.t 54))⟩,
               ⟨(some 56), none, (.bsl 1 1 [(.t 55)])⟩,
               ⟨(some 57), none, (.app 1 24 false (.t 45) (.t 56))⟩,
               ⟨(some 4), none, (.mv (.t 57))⟩])
             (.reg 7 none [0, 4, 5] [
               ⟨(some 58), none, (.mv (.t 5))⟩,
               ⟨(some 59), none, (.mv (.t 6))⟩,
               ⟨(some 60), none, (.bin .add false (.t 59) (.k (.v (.int .i64 8))))⟩,
               ⟨(some 61), none, (.bin .add false (.t 58) (.t 60))⟩,
               ⟨(some 5), none, (.mv (.t 61))⟩]))))))))
      (.seq
       (.reg 8 none [2, 3] [
         ⟨(some 62), none, (.mv (.t 4))⟩,
         ⟨(some 63), none, (.mv (.t 5))⟩,
         ⟨(some 2), none, (.mv (.t 62))⟩,
         ⟨(some 3), none, (.mv (.t 63))⟩])
       .ret)))))
theorem fn17 : FnIR Try.prog 17 64 [(0, [0]), (1, [0, 4]), (2, [0, 4, 5]), (3, [0, 4, 5, 11]), (4, [0, 4, 5, 6]), (5, [0, 4, 5, 6, 44]), (6, [0, 4, 5, 6]), (7, [0, 4, 5]), (8, [2, 3])] ir17 [(.tmp 2), (.tmp 3)] :=
  ⟨Try.f17, _, Try.func17, rfl, by kernel_rfl, rfl, by kernel_rfl, by kernel_rfl⟩

/-- dataenclave/dataenclaveref23.Same -/
def ir18 : RC :=
  (.seq
   (.reg 0 none [2, 3] [
     ⟨(some 2), none, (.box (.t 0))⟩,
     ⟨(some 3), none, (.box (.t 1))⟩,
     ⟨(some 4), none, (.mv (.k (.v (.bool false))))⟩])
   (.seq
    (.reg 1 none [4] [
      ⟨(some 5), none, (.fa 0 (.t 2))⟩,
      ⟨(some 6), none, (.ld none (.t 5))⟩,
      ⟨(some 7), none, (.cvBS (.t 6))⟩,
      ⟨(some 8), none, (.fa 0 (.t 3))⟩,
      ⟨(some 9), none, (.ld none (.t 8))⟩,
      ⟨(some 10), none, (.cvBS (.t 9))⟩,
      ⟨(some 11), none, (.bin .eql false (.t 7) (.t 10))⟩,
      ⟨(some 12), none, (.mv (.t 11))⟩,
      ⟨(some 13), (some (12, true)), (.fa 1 (.t 2))⟩,
      ⟨(some 14), (some (12, true)), (.ld none (.t 13))⟩,
      ⟨(some 15), (some (12, true)), (.cvBS (.t 14))⟩,
      ⟨(some 16), (some (12, true)), (.fa 1 (.t 3))⟩,
      ⟨(some 17), (some (12, true)), (.ld none (.t 16))⟩,
      ⟨(some 18), (some (12, true)), (.cvBS (.t 17))⟩,
      ⟨(some 19), (some (12, true)), (.bin .eql false (.t 15) (.t 18))⟩,
      ⟨(some 20), none, (.pick (.t 12) (.t 19) (.k (.v (.bool false))))⟩,
      ⟨(some 4), none, (.mv (.t 20))⟩])
    .ret))
theorem fn18 : FnIR Try.prog 18 21 [(0, [2, 3]), (1, [4])] ir18 [(.tmp 4)] :=
  ⟨Try.f18, _, Try.func18, rfl, by kernel_rfl, rfl, by kernel_rfl, by kernel_rfl⟩

/-- dataenclave/dataenclaveref23.Lists -/
def ir19 : RC :=
  (.seq
   (.reg 0 none [0, 1] [
     ⟨(some 4), none, (.mv (.k (.v (.bool false))))⟩])
   (.seq
    (.seq
     (.reg 1 none [0, 1, 10] [
       ⟨(some 6), none, (.mv (.t 0))⟩,
       ⟨(some 7), none, (.lenL (.t 6))⟩,
       ⟨(some 8), none, (.mv (.t 1))⟩,
       ⟨(some 9), none, (.lenL (.t 8))⟩,
       ⟨(some 10), none, (.bin .neq false (.t 7) (.t 9))⟩])
     (.cond (.t 10)
      (.seq
       (.reg 2 none [4] [
         ⟨(some 4), none, (.mv (.k (.v (.bool false))))⟩])
       .ret)
      .skip))
    (.seq
     (.seq
      (.reg 3 none [0, 1, 12, 13] [
        ⟨(some 11), none, (.mv (.t 0))⟩,
        ⟨(some 12), none, (.lenL (.t 11))⟩,
        ⟨(some 13), none, (.mv (.k (.v (.int .i64 0))))⟩])
      (.block 0
       (.loop
        (.seq
         (.reg 4 none [0, 1, 12, 13, 14] [
           ⟨(some 14), none, (.bin .lss false (.t 13) (.t 12))⟩])
         (.seq
          (.cond (.t 14)
           .skip
           (.exit 0))
          (.seq
           (.block 1
            (.seq
             (.reg 5 none [0, 1, 5, 12, 13] [
               ⟨(some 15), none, (.mv (.t 13))⟩,
               ⟨(some 5), none, (.mv (.t 15))⟩])
             (.seq
              (.reg 6 (some [0, 0, 3, 7, 15, 0, 0, 96, 224, 480, 1023]) [0, 1, 12, 13, 26] [
                ⟨(some 16), none, (.mv (.t 0))⟩,
                ⟨(some 17), none, (.mv (.t 5))⟩,
                ⟨(some 18), none, (.ixL 1 (.t 16) (.t 17))⟩,
                ⟨(some 19), none, (.ld none (.t 18))⟩,
                ⟨(some 20), none, (.cvBS (.t 19))⟩,
                ⟨(some 21), none, (.mv (.t 1))⟩,
                ⟨(some 22), none, (.mv (.t 5))⟩,
                ⟨(some 23), none, (.ixL 1 (.t 21) (.t 22))⟩,
                ⟨(some 24), none, (.ld none (.t 23))⟩,
                ⟨(some 25), none, (.cvBS (.t 24))⟩,
                ⟨(some 26), none, (.bin .neq false (.t 20) (.t 25))⟩])
              (.cond (.t 26)
               (.seq
                (.reg 7 none [4] [
                  ⟨(some 4), none, (.mv (.k (.v (.bool false))))⟩])
                .ret)
               .skip))))
           (.reg 8 none [0, 1, 12, 13] [
             ⟨(some 27), none, (.bin .add false (.t 13) (.k (.v (.int .i64 1))))⟩,
             ⟨(some 13), none, (.mv (.t 27))⟩])))))))
     (.seq
      (.reg 9 none [4] [
        ⟨(some 4), none, (.mv (.k (.v (.bool true))))⟩])
      .ret))))
theorem fn19 : FnIR Try.prog 19 28 [(0, [0, 1]), (1, [0, 1, 10]), (2, [4]), (3, [0, 1, 12, 13]), (4, [0, 1, 12, 13, 14]), (5, [0, 1, 5, 12, 13]), (6, [0, 1, 12, 13, 26]), (7, [4]), (8, [0, 1, 12, 13]), (9, [4])] ir19 [(.tmp 4)] :=
  ⟨Try.f19, _, Try.func19, rfl, by kernel_rfl, rfl, by kernel_rfl, by kernel_rfl⟩

/-- dataenclave/journal.Sync -/
def ir20 : RC :=
  (.seq
   (.reg 0 none [1, 2] [
     ⟨(some 1), none, (.box (.t 0))⟩,
     ⟨(some 2), none, (.new (.agg [(.v (.slice none 0 0)), (.v (.slice none 0 0))]))⟩])
   (.seq
    (.reg 1 none [2] [
      ⟨(some 3), none, (.ld (some 2) (.t 1))⟩,
      ⟨(some 4), none, (.fa 1 (.t 1))⟩,
      ⟨(some 5), none, (.ld none (.t 4))⟩,
      ⟨(some 6), none, (.lenL (.t 5))⟩,
      ⟨(some 7), none, (.call (.k (.clo 22 [])) [(.t 3), (.t 6)])⟩,
      ⟨none, none, (.st 2 (.t 2) (.t 7))⟩])
    .ret))
theorem fn20 : FnIR Try.prog 20 8 [(0, [1, 2]), (1, [2])] ir20 [(.cell 2 (some 2))] :=
  ⟨Try.f20, _, Try.func20, rfl, by kernel_rfl, rfl, by kernel_rfl, by kernel_rfl⟩

/-- dataenclave/dataenclaveref23.Sync -/
def ir21 : RC :=
  (.seq
   (.reg 0 none [1, 2] [
     ⟨(some 1), none, (.box (.t 0))⟩,
     ⟨(some 2), none, (.new (.agg [(.v (.slice none 0 0)), (.v (.slice none 0 0))]))⟩])
   (.seq
    (.reg 1 none [2] [
      ⟨(some 3), none, (.ld (some 2) (.t 1))⟩,
      ⟨(some 4), none, (.fa 1 (.t 1))⟩,
      ⟨(some 5), none, (.ld none (.t 4))⟩,
      ⟨(some 6), none, (.lenL (.t 5))⟩,
      ⟨(some 7), none, (.call (.k (.clo 23 [])) [(.t 3), (.t 6)])⟩,
      ⟨none, none, (.st 2 (.t 2) (.t 7))⟩])
    .ret))
theorem fn21 : FnIR Try.prog 21 8 [(0, [1, 2]), (1, [2])] ir21 [(.cell 2 (some 2))] :=
  ⟨Try.f21, _, Try.func21, rfl, by kernel_rfl, rfl, by kernel_rfl, by kernel_rfl⟩

/-- dataenclave/journal.Crash -/
def ir22 : RC :=
  (.seq
   (.reg 0 none [1, 2, 4] [
     ⟨(some 2), none, (.box (.t 0))⟩,
     ⟨(some 4), none, (.new (.agg [(.v (.slice none 0 0)), (.v (.slice none 0 0))]))⟩])
   (.seq
    (.reg 1 none [1, 2, 4] [
      ⟨(some 5), none, (.mv (.t 1))⟩,
      ⟨(some 6), none, (.mx [(.k (.v (.int .i64 0))), (.t 5)])⟩,
      ⟨(some 7), none, (.fa 1 (.t 2))⟩,
      ⟨(some 8), none, (.ld none (.t 7))⟩,
      ⟨(some 9), none, (.lenL (.t 8))⟩,
      ⟨(some 10), none, (.mn [(.t 6), (.t 9)])⟩,
      ⟨(some 1), none, (.mv (.t 10))⟩])
    (.seq
     (.reg 2 (some [0, 1, 0, 4, 0, 28, 63, 127, 255]) [4] [
       ⟨(some 11), none, (.fa 0 (.t 2))⟩,
       ⟨(some 12), none, (.ld none (.t 11))⟩,
       ⟨(some 13), none, (.fa 1 (.t 2))⟩,
       ⟨(some 14), none, (.ld none (.t 13))⟩,
       ⟨(some 15), none, (.mv (.t 1))⟩,
       ⟨(some 16), none, (.slL 1 (.t 14) none (some (.t 15)))⟩,
       ⟨(some 17), none, (.call (.k (.clo 29 [])) [(.t 12), (.t 16)])⟩,
       ⟨(some 18), none, (.build [(.v (.slice none 0 0)), (.v (.slice none 0 0))] [((0, 1), (.t 17))])⟩,
       ⟨none, none, (.st 2 (.t 4) (.t 18))⟩])
     .ret)))
theorem fn22 : FnIR Try.prog 22 19 [(0, [1, 2, 4]), (1, [1, 2, 4]), (2, [4])] ir22 [(.cell 4 (some 2))] :=
  ⟨Try.f22, _, Try.func22, rfl, by kernel_rfl, rfl, by kernel_rfl, by kernel_rfl⟩

/-- dataenclave/dataenclaveref23.Crash -/
def ir23 : RC :=
  (.seq
   (.reg 0 none [1, 2, 4] [
     ⟨(some 2), none, (.box (.t 0))⟩,
     ⟨(some 4), none, (.new (.agg [(.v (.slice none 0 0)), (.v (.slice none 0 0))]))⟩])
   (.seq
    (.reg 1 none [1, 2, 4] [
      ⟨(some 5), none, (.mv (.t 1))⟩,
      ⟨(some 6), none, (.mx [(.t 5), (.k (.v (.int .i64 0)))])⟩,
      ⟨(some 7), none, (.fa 1 (.t 2))⟩,
      ⟨(some 8), none, (.ld none (.t 7))⟩,
      ⟨(some 9), none, (.lenL (.t 8))⟩,
      ⟨(some 10), none, (.mn [(.t 6), (.t 9)])⟩,
      ⟨(some 1), none, (.mv (.t 10))⟩])
    (.seq
     (.reg 2 (some [0, 0, 2, 7, 0, 16, 0, 112, 255, 511, 1023]) [4] [
       ⟨(some 11), none, (.bsl 1 0 [])⟩,
       ⟨(some 12), none, (.fa 0 (.t 2))⟩,
       ⟨(some 13), none, (.ld none (.t 12))⟩,
       ⟨(some 14), none, (.app 1 1 false (.t 11) (.t 13))⟩,
       ⟨(some 15), none, (.fa 1 (.t 2))⟩,
       ⟨(some 16), none, (.ld none (.t 15))⟩,
       ⟨(some 17), none, (.mv (.t 1))⟩,
       ⟨(some 18), none, (.slL 1 (.t 16) none (some (.t 17)))⟩,
       ⟨(some 19), none, (.app 1 1 false (.t 14) (.t 18))⟩,
       ⟨(some 20), none, (.build [(.v (.slice none 0 0)), (.v (.slice none 0 0))] [((0, 1), (.t 19))])⟩,
       ⟨none, none, (.st 2 (.t 4) (.t 20))⟩])
     .ret)))
theorem fn23 : FnIR Try.prog 23 21 [(0, [1, 2, 4]), (1, [1, 2, 4]), (2, [4])] ir23 [(.cell 4 (some 2))] :=
  ⟨Try.f23, _, Try.func23, rfl, by kernel_rfl, rfl, by kernel_rfl, by kernel_rfl⟩

/-- dataenclave/journal.put -/
def ir24 : RC :=
  (.seq
   (.reg 0 none [0, 1] [
     ⟨(some 4), none, (.mv (.k (.v (.slice none 0 0))))⟩])
   (.seq
    (.reg 1 none [4] [
      ⟨(some 5), none, (.mv (.t 0))⟩,
      ⟨(some 6), none, (.mv (.t 1))⟩,
      ⟨(some 7), none, (.bin .shr false (.t 6) (.k (.v (.int .u64 24))))⟩,
      ⟨(some 8), none, (.cvI .u8 (.t 7))⟩,
      ⟨(some 9), none, (.mv (.t 1))⟩,
      ⟨(some 10), none, (.bin .shr false (.t 9) (.k (.v (.int .u64 16))))⟩,
      ⟨(some 11), none, (.cvI .u8 (.t 10))⟩,
      ⟨(some 12), none, (.mv (.t 1))⟩,
      ⟨(some 13), none, (.bin .shr false (.t 12) (.k (.v (.int .u64 8))))⟩,
      ⟨(some 14), none, (.cvI .u8 (.t 13))⟩,
      ⟨(some 15), none, (.mv (.t 1))⟩,
      ⟨(some 16), none, (.cvI .u8 (.t 15))⟩,
      ⟨(some 17), none, (.bsl 1 4 [(.t 8), (.t 11), (.t 14), (.t 16)])⟩,
      ⟨(some 18), none, (.app 1 1 false (.t 5) (.t 17))⟩,
      ⟨(some 4), none, (.mv (.t 18))⟩])
    .ret))
theorem fn24 : FnIR Try.prog 24 19 [(0, [0, 1]), (1, [4])] ir24 [(.tmp 4)] :=
  ⟨Try.f24, _, Try.func24, rfl, by kernel_rfl, rfl, by kernel_rfl, by kernel_rfl⟩

/-- dataenclave/journal.check -/
def ir25 : RC :=
  (.seq
   (.reg 0 none [0] [
     ⟨(some 2), none, (.mv (.k (.v (.int .i64 0))))⟩])
   (.seq
    (.reg 1 none [0, 3] [
      ⟨(some 3), none, (.mv (.k (.v (.int .i64 0))))⟩])
    (.seq
     (.seq
      (.reg 2 none [3, 6, 7, 8] [
        ⟨(some 6), none, (.mv (.t 0))⟩,
        ⟨(some 7), none, (.lenL (.t 6))⟩,
        ⟨(some 8), none, (.mv (.k (.v (.int .i64 0))))⟩])
      (.block 0
       (.loop
        (.seq
         (.reg 3 none [3, 6, 7, 8, 9] [
           ⟨(some 9), none, (.bin .lss false (.t 8) (.t 7))⟩])
         (.seq
          (.cond (.t 9)
           .skip
           (.exit 0))
          (.seq
           (.block 1
            (.seq
             (.reg 4 none [3, 4, 5, 6, 7, 8] [
               ⟨(some 10), none, (.mv (.t 8))⟩,
               ⟨(some 11), none, (.ixL 1 (.t 6) (.t 8))⟩,
               ⟨(some 12), none, (.ld none (.t 11))⟩,
               ⟨(some 4), none, (.mv (.t 10))⟩,
               ⟨(some 5), none, (.mv (.t 12))⟩])
             (.reg 5 none [3, 6, 7, 8] [
               ⟨(some 13), none, (.mv (.t 3))⟩,
               ⟨(some 14), none, (.mv (.t 4))⟩,
               ⟨(some 15), none, (.bin .add false (.t 14) (.k (.v (.int .i64 1))))⟩,
               ⟨(some 16), none, (.mv (.t 5))⟩,
               ⟨(some 17), none, (.cvI .i64 (.t 16))⟩,
               ⟨(some 18), none, (.bin .mul false (.t 15) (.t 17))⟩,
               ⟨(some 19), none, (.bin .add false (.t 13) (.t 18))⟩,
               ⟨(some 3), none, (.mv (.t 19))⟩])))
           (.reg 6 none [3, 6, 7, 8] [
             ⟨(some 20), none, (.bin .add false (.t 8) (.k (.v (.int .i64 1))))⟩,
             ⟨(some 8), none, (.mv (.t 20))⟩])))))))
     (.seq
      (.reg 7 none [2] [
        ⟨(some 21), none, (.mv (.t 3))⟩,
        ⟨(some 22), none, (.bin .rem false (.t 21) (.k (.v (.int .i64 65521))))⟩,
        ⟨(some 2), none, (.mv (.t 22))⟩])
      .ret))))
theorem fn25 : FnIR Try.prog 25 23 [(0, [0]), (1, [0, 3]), (2, [3, 6, 7, 8]), (3, [3, 6, 7, 8, 9]), (4, [3, 4, 5, 6, 7, 8]), (5, [3, 6, 7, 8]), (6, [3, 6, 7, 8]), (7, [2])] ir25 [(.tmp 2)] :=
  ⟨Try.f25, _, Try.func25, rfl, by kernel_rfl, rfl, by kernel_rfl, by kernel_rfl⟩

/-- dataenclave/journal.number -/
def ir26 : RC :=
  (.seq
   (.reg 0 none [0] [
     ⟨(some 2), none, (.mv (.k (.v (.int .i64 0))))⟩])
   (.seq
    (.reg 1 (some [0, 1, 3, 7, 15, 0, 32, 96, 224, 480, 1023, 0, 2048, 6144, 14336, 30720, 65535, 0, 131072, 393216, 917504, 2097151, 4194303]) [2] [
      ⟨(some 3), none, (.mv (.t 0))⟩,
      ⟨(some 4), none, (.ixL 1 (.t 3) (.k (.v (.int .i64 0))))⟩,
      ⟨(some 5), none, (.ld none (.t 4))⟩,
      ⟨(some 6), none, (.cvI .i64 (.t 5))⟩,
      ⟨(some 7), none, (.bin .shl false (.t 6) (.k (.v (.int .u64 24))))⟩,
      ⟨(some 8), none, (.mv (.t 0))⟩,
      ⟨(some 9), none, (.ixL 1 (.t 8) (.k (.v (.int .i64 1))))⟩,
      ⟨(some 10), none, (.ld none (.t 9))⟩,
      ⟨(some 11), none, (.cvI .i64 (.t 10))⟩,
      ⟨(some 12), none, (.bin .shl false (.t 11) (.k (.v (.int .u64 16))))⟩,
      ⟨(some 13), none, (.bin .or false (.t 7) (.t 12))⟩,
      ⟨(some 14), none, (.mv (.t 0))⟩,
      ⟨(some 15), none, (.ixL 1 (.t 14) (.k (.v (.int .i64 2))))⟩,
      ⟨(some 16), none, (.ld none (.t 15))⟩,
      ⟨(some 17), none, (.cvI .i64 (.t 16))⟩,
      ⟨(some 18), none, (.bin .shl false (.t 17) (.k (.v (.int .u64 8))))⟩,
      ⟨(some 19), none, (.bin .or false (.t 13) (.t 18))⟩,
      ⟨(some 20), none, (.mv (.t 0))⟩,
      ⟨(some 21), none, (.ixL 1 (.t 20) (.k (.v (.int .i64 3))))⟩,
      ⟨(some 22), none, (.ld none (.t 21))⟩,
      ⟨(some 23), none, (.cvI .i64 (.t 22))⟩,
      ⟨(some 24), none, (.bin .or false (.t 19) (.t 23))⟩,
      ⟨(some 2), none, (.mv (.t 24))⟩])
    .ret))
theorem fn26 : FnIR Try.prog 26 25 [(0, [0]), (1, [2])] ir26 [(.tmp 2)] :=
  ⟨Try.f26, _, Try.func26, rfl, by kernel_rfl, rfl, by kernel_rfl, by kernel_rfl⟩

/-- slices.Clone[[]byte,byte] -/
def ir27 : RC :=
  (.seq
   (.reg 0 none [0] [
     ⟨(some 2), none, (.mv (.k (.v (.slice none 0 0))))⟩])
   (.seq
    (.seq
     (.reg 1 none [0, 4] [
       ⟨(some 3), none, (.mv (.t 0))⟩,
       ⟨(some 4), none, (.ext (.nilq false) [(.t 3), (.k (.v (.slice none 0 0)))])⟩])
     (.cond (.t 4)
      (.seq
       (.reg 2 none [2] [
         ⟨(some 2), none, (.mv (.k (.v (.slice none 0 0))))⟩])
       .ret)
      .skip))
    (.seq
     (.reg 3 none [2] [
       ⟨(some 5), none, (.bsl 1 0 [])⟩,
       ⟨(some 6), none, (.mv (.t 0))⟩,
       ⟨(some 7), none, (.app 1 1 false (.t 5) (.t 6))⟩,
       ⟨(some 2), none, (.mv (.t 7))⟩])
     .ret)))
theorem fn27 : FnIR Try.prog 27 8 [(0, [0]), (1, [0, 4]), (2, [2]), (3, [2])] ir27 [(.tmp 2)] :=
  ⟨Try.f27, _, Try.func27, rfl, by kernel_rfl, rfl, by kernel_rfl, by kernel_rfl⟩

/-- dataenclave/journal.copied -/
def ir28 : RC :=
  (.seq
   (.reg 0 none [1, 2] [
     ⟨(some 1), none, (.box (.t 0))⟩,
     ⟨(some 2), none, (.new (.agg [(.v (.slice none 0 0)), (.v (.slice none 0 0))]))⟩])
   (.seq
    (.reg 1 (some [0, 1, 3, 0, 8, 31, 63, 127]) [2] [
      ⟨(some 3), none, (.fa 0 (.t 1))⟩,
      ⟨(some 4), none, (.ld none (.t 3))⟩,
      ⟨(some 5), none, (.call (.k (.clo 27 [])) [(.t 4)])⟩,
      ⟨(some 6), none, (.fa 1 (.t 1))⟩,
      ⟨(some 7), none, (.ld none (.t 6))⟩,
      ⟨(some 8), none, (.call (.k (.clo 27 [])) [(.t 7)])⟩,
      ⟨(some 9), none, (.build [(.v (.slice none 0 0)), (.v (.slice none 0 0))] [((0, 1), (.t 5)), ((1, 1), (.t 8))])⟩,
      ⟨none, none, (.st 2 (.t 2) (.t 9))⟩])
    .ret))
theorem fn28 : FnIR Try.prog 28 10 [(0, [1, 2]), (1, [2])] ir28 [(.cell 2 (some 2))] :=
  ⟨Try.f28, _, Try.func28, rfl, by kernel_rfl, rfl, by kernel_rfl, by kernel_rfl⟩

/-- dataenclave/journal.joined -/
def ir29 : RC :=
  (.seq
   (.reg 0 none [0, 1] [
     ⟨(some 4), none, (.mv (.k (.v (.slice none 0 0))))⟩])
   (.seq
    (.reg 1 none [4] [
      ⟨(some 5), none, (.mv (.t 0))⟩,
      ⟨(some 6), none, (.call (.k (.clo 27 [])) [(.t 5)])⟩,
      ⟨(some 7), none, (.mv (.t 1))⟩,
      ⟨(some 8), none, (.app 1 1 false (.t 6) (.t 7))⟩,
      ⟨(some 4), none, (.mv (.t 8))⟩])
    .ret))
theorem fn29 : FnIR Try.prog 29 9 [(0, [0, 1]), (1, [4])] ir29 [(.tmp 4)] :=
  ⟨Try.f29, _, Try.func29, rfl, by kernel_rfl, rfl, by kernel_rfl, by kernel_rfl⟩

/-- dataenclave/dataenclaveref23.Four -/
def ir30 : RC :=
  (.seq
   (.reg 0 none [0] [
     ⟨(some 2), none, (.mv (.k (.v (.slice none 0 0))))⟩])
   (.seq
    (.reg 1 none [2] [
      ⟨(some 3), none, (.mv (.t 0))⟩,
      ⟨(some 4), none, (.bin .shr false (.t 3) (.k (.v (.int .u64 24))))⟩,
      ⟨(some 5), none, (.cvI .u8 (.t 4))⟩,
      ⟨(some 6), none, (.mv (.t 0))⟩,
      ⟨(some 7), none, (.bin .shr false (.t 6) (.k (.v (.int .u64 16))))⟩,
      ⟨(some 8), none, (.cvI .u8 (.t 7))⟩,
      ⟨(some 9), none, (.mv (.t 0))⟩,
      ⟨(some 10), none, (.bin .shr false (.t 9) (.k (.v (.int .u64 8))))⟩,
      ⟨(some 11), none, (.cvI .u8 (.t 10))⟩,
      ⟨(some 12), none, (.mv (.t 0))⟩,
      ⟨(some 13), none, (.cvI .u8 (.t 12))⟩,
      ⟨(some 14), none, (.bsl 1 4 [(.t 5), (.t 8), (.t 11), (.t 13)])⟩,
      ⟨(some 2), none, (.mv (.t 14))⟩])
    .ret))
theorem fn30 : FnIR Try.prog 30 15 [(0, [0]), (1, [2])] ir30 [(.tmp 2)] :=
  ⟨Try.f30, _, Try.func30, rfl, by kernel_rfl, rfl, by kernel_rfl, by kernel_rfl⟩

/-- dataenclave/dataenclaveref23.Value -/
def ir31 : RC :=
  (.seq
   (.reg 0 none [0] [
     ⟨(some 2), none, (.mv (.k (.v (.int .i64 0))))⟩])
   (.seq
    (.reg 1 none [0, 3] [
      ⟨(some 3), none, (.mv (.k (.v (.int .i64 0))))⟩])
    (.seq
     (.seq
      (.reg 2 none [0, 3, 4] [
        ⟨(some 4), none, (.mv (.k (.v (.int .i64 0))))⟩])
      (.block 0
       (.loop
        (.seq
         (.seq
          (.reg 3 none [0, 3, 4, 8] [
            ⟨(some 5), none, (.mv (.t 4))⟩,
            ⟨(some 6), none, (.mv (.t 0))⟩,
            ⟨(some 7), none, (.lenL (.t 6))⟩,
            ⟨(some 8), none, (.bin .lss false (.t 5) (.t 7))⟩])
          (.cond (.t 8)
           .skip
           (.exit 0)))
         (.seq
          (.block 1
           (.reg 5 none [0, 3, 4] [
             ⟨(some 11), none, (.mv (.t 3))⟩,
             ⟨(some 12), none, (.mv (.t 4))⟩,
             ⟨(some 13), none, (.bin .add false (.t 12) (.k (.v (.int .i64 1))))⟩,
             ⟨(some 14), none, (.mv (.t 0))⟩,
             ⟨(some 15), none, (.mv (.t 4))⟩,
             ⟨(some 16), none, (.ixL 1 (.t 14) (.t 15))⟩,
             ⟨(some 17), none, (.ld none (.t 16))⟩,
             ⟨(some 18), none, (.cvI .i64 (.t 17))⟩,
             ⟨(some 19), none, (.bin .mul false (.t 13) (.t 18))⟩,
             ⟨(some 20), none, (.bin .add false (.t 11) (.t 19))⟩,
             ⟨(some 21), none, (.bin .rem false (.t 20) (.k (.v (.int .i64 65521))))⟩,
             ⟨(some 3), none, (.mv (.t 21))⟩]))
          (.reg 4 none [0, 3, 4] [
            ⟨(some 9), none, (.mv (.t 4))⟩,
            ⟨(some 10), none, (.bin .add false (.t 9) (.k (.v (.int .i64 1))))⟩,
            ⟨(some 4), none, (.mv (.t 10))⟩]))))))
     (.seq
      (.reg 6 none [2] [
        ⟨(some 22), none, (.mv (.t 3))⟩,
        ⟨(some 2), none, (.mv (.t 22))⟩])
      .ret))))
theorem fn31 : FnIR Try.prog 31 23 [(0, [0]), (1, [0, 3]), (2, [0, 3, 4]), (3, [0, 3, 4, 8]), (4, [0, 3, 4]), (5, [0, 3, 4]), (6, [2])] ir31 [(.tmp 2)] :=
  ⟨Try.f31, _, Try.func31, rfl, by kernel_rfl, rfl, by kernel_rfl, by kernel_rfl⟩

/-- dataenclave/dataenclaveref23.Copy -/
def ir32 : RC :=
  (.seq
   (.reg 0 none [1, 2] [
     ⟨(some 1), none, (.box (.t 0))⟩,
     ⟨(some 2), none, (.new (.agg [(.v (.slice none 0 0)), (.v (.slice none 0 0))]))⟩])
   (.seq
    (.reg 1 (some [0, 0, 2, 7, 0, 0, 32, 127, 255, 511]) [2] [
      ⟨(some 3), none, (.bsl 1 0 [])⟩,
      ⟨(some 4), none, (.fa 0 (.t 1))⟩,
      ⟨(some 5), none, (.ld none (.t 4))⟩,
      ⟨(some 6), none, (.app 1 1 false (.t 3) (.t 5))⟩,
      ⟨(some 7), none, (.bsl 1 0 [])⟩,
      ⟨(some 8), none, (.fa 1 (.t 1))⟩,
      ⟨(some 9), none, (.ld none (.t 8))⟩,
      ⟨(some 10), none, (.app 1 1 false (.t 7) (.t 9))⟩,
      ⟨(some 11), none, (.build [(.v (.slice none 0 0)), (.v (.slice none 0 0))] [((0, 1), (.t 6)), ((1, 1), (.t 10))])⟩,
      ⟨none, none, (.st 2 (.t 2) (.t 11))⟩])
    .ret))
theorem fn32 : FnIR Try.prog 32 12 [(0, [1, 2]), (1, [2])] ir32 [(.cell 2 (some 2))] :=
  ⟨Try.f32, _, Try.func32, rfl, by kernel_rfl, rfl, by kernel_rfl, by kernel_rfl⟩

/-- dataenclave/dataenclaveref23.number -/
def ir33 : RC :=
  (.seq
   (.reg 0 none [0] [
     ⟨(some 2), none, (.mv (.k (.v (.int .i64 0))))⟩])
   (.seq
    (.reg 1 (some [0, 1, 3, 7, 15, 0, 32, 96, 224, 480, 1023, 0, 2048, 6144, 14336, 30720, 65535, 0, 131072, 393216, 917504, 2097151, 4194303]) [2] [
      ⟨(some 3), none, (.mv (.t 0))⟩,
      ⟨(some 4), none, (.ixL 1 (.t 3) (.k (.v (.int .i64 0))))⟩,
      ⟨(some 5), none, (.ld none (.t 4))⟩,
      ⟨(some 6), none, (.cvI .i64 (.t 5))⟩,
      ⟨(some 7), none, (.bin .shl false (.t 6) (.k (.v (.int .u64 24))))⟩,
      ⟨(some 8), none, (.mv (.t 0))⟩,
      ⟨(some 9), none, (.ixL 1 (.t 8) (.k (.v (.int .i64 1))))⟩,
      ⟨(some 10), none, (.ld none (.t 9))⟩,
      ⟨(some 11), none, (.cvI .i64 (.t 10))⟩,
      ⟨(some 12), none, (.bin .shl false (.t 11) (.k (.v (.int .u64 16))))⟩,
      ⟨(some 13), none, (.bin .add false (.t 7) (.t 12))⟩,
      ⟨(some 14), none, (.mv (.t 0))⟩,
      ⟨(some 15), none, (.ixL 1 (.t 14) (.k (.v (.int .i64 2))))⟩,
      ⟨(some 16), none, (.ld none (.t 15))⟩,
      ⟨(some 17), none, (.cvI .i64 (.t 16))⟩,
      ⟨(some 18), none, (.bin .shl false (.t 17) (.k (.v (.int .u64 8))))⟩,
      ⟨(some 19), none, (.bin .add false (.t 13) (.t 18))⟩,
      ⟨(some 20), none, (.mv (.t 0))⟩,
      ⟨(some 21), none, (.ixL 1 (.t 20) (.k (.v (.int .i64 3))))⟩,
      ⟨(some 22), none, (.ld none (.t 21))⟩,
      ⟨(some 23), none, (.cvI .i64 (.t 22))⟩,
      ⟨(some 24), none, (.bin .add false (.t 19) (.t 23))⟩,
      ⟨(some 2), none, (.mv (.t 24))⟩])
    .ret))
theorem fn33 : FnIR Try.prog 33 25 [(0, [0]), (1, [2])] ir33 [(.tmp 2)] :=
  ⟨Try.f33, _, Try.func33, rfl, by kernel_rfl, rfl, by kernel_rfl, by kernel_rfl⟩

end Go.Proofs

