import Derived.Test.YtckkagikeoimhaaChecked
import Derived.Test.YtckkagikeoimhaaZzU
namespace Go.Proofs
open Go.TL
abbrev F_law29_EquationsParts : FuncId := 3
abbrev F_law29_EquationsTrue : FuncId := 4
abbrev F_draw_New : FuncId := 5
abbrev F_made_Told : FuncId := 6
abbrev F_made_Cells : FuncId := 7
abbrev F_equations_All : FuncId := 8
abbrev F_equations_Of : FuncId := 9
abbrev F_equations_Agrees : FuncId := 10
abbrev F_ref29_Same : FuncId := 11
abbrev F_law29_awake : FuncId := 12
abbrev F_ref28_Publish : FuncId := 13
abbrev F_equations_Valid : FuncId := 14
abbrev F_ref28_Count : FuncId := 15
abbrev F_made_Space : FuncId := 16
abbrev F_made_Releases : FuncId := 17
abbrev F_draw_Codes_Next : FuncId := 18
abbrev F_equations_Check : FuncId := 19
abbrev F_equations_told : FuncId := 20
abbrev F_slices_ContainsFunc_int : FuncId := 21
abbrev F_equations_Agrees_1 : FuncId := 22
abbrev F_equations_value : FuncId := 23
abbrev F_ref28_Ints : FuncId := 24
abbrev F_ref28_View : FuncId := 25
abbrev F_ref28_Published : FuncId := 26
abbrev F_ref28_Of : FuncId := 27
abbrev F_slices_ContainsFunc_Equation : FuncId := 28
abbrev F_equations_Valid_1 : FuncId := 29
abbrev F_equations_right : FuncId := 30
abbrev F_ref28_Check : FuncId := 31
abbrev F_made_View : FuncId := 32
abbrev F_cells_Check : FuncId := 33
abbrev F_equations_check : FuncId := 34
abbrev F_cells_Members : FuncId := 35
abbrev F_slices_IndexFunc_int : FuncId := 36
abbrev F_ref28_Groups : FuncId := 37
abbrev F_ref28_At : FuncId := 38
abbrev F_slices_IndexFunc_Equation : FuncId := 39
abbrev F_cells_View : FuncId := 40
abbrev F_cells_Published : FuncId := 41
abbrev F_equations_check_1 : FuncId := 42
abbrev F_cells_product : FuncId := 43
abbrev F_cells_sizes : FuncId := 44
abbrev F_cells_published : FuncId := 45
abbrev F_cells_numbered : FuncId := 46
abbrev F_slices_Max_int : FuncId := 47
abbrev F_cells_places : FuncId := 48
abbrev F_slices_Contains_int : FuncId := 49
abbrev F_cells_number : FuncId := 50
abbrev F_slices_Index_int : FuncId := 51
abbrev F_draw_Codes_Secret : FuncId := 67
/-- dataenclave/dataenclavelaw29.EquationsParts -/
def ir_law29_EquationsParts : RC :=
  (.seq
   (.reg 0 none [0] [
     ⟨(some 2), none, (.mv (.k (.v (.bool false))))⟩])
   (.seq
    (.reg 1 none [3] [
      ⟨(some 16), none, (.mv (.t 0))⟩,
      ⟨(some 17), none, (.call (.k (.clo F_draw_New [])) [(.t 16)])⟩,
      ⟨(some 3), none, (.mv (.t 17))⟩])
    (.seq
     (.reg 2 none [3, 4, 6] [
       ⟨(some 19), none, (.mv (.t 3))⟩,
       ⟨(some 20), none, (.call (.k (.clo F_made_Told [])) [(.t 19), (.k (.v (.int .i64 3))), (.k (.v (.int .i64 4)))])⟩,
       ⟨(some 18), none, (.mv (.t 20))⟩,
       ⟨(some 21), none, (.ex (.t 18) 0)⟩,
       ⟨(some 22), none, (.ex (.t 18) 1)⟩,
       ⟨(some 23), none, (.ex (.t 18) 2)⟩,
       ⟨(some 4), none, (.new (.agg [(.v (.slice none 0 0))]))⟩,
       ⟨none, none, (.st 1 (.t 4) (.t 21))⟩,
       ⟨(some 5), none, (.mv (.t 22))⟩,
       ⟨(some 6), none, (.mv (.t 23))⟩])
     (.seq
      (.reg 3 none [4, 6, 7] [
        ⟨(some 24), none, (.mv (.t 3))⟩,
        ⟨(some 25), none, (.ld (some 1) (.t 4))⟩,
        ⟨(some 26), none, (.call (.k (.clo F_made_Cells [])) [(.t 24), (.t 25), (.k (.v (.int .i64 3)))])⟩,
        ⟨(some 7), none, (.mv (.t 26))⟩])
      (.seq
       (.reg 4 none [4, 6, 7, 8, 9] [
         ⟨(some 28), none, (.ld (some 1) (.t 4))⟩,
         ⟨(some 29), none, (.mv (.t 6))⟩,
         ⟨(some 30), none, (.call (.k (.clo F_equations_All [])) [(.t 28), (.t 29)])⟩,
         ⟨(some 27), none, (.mv (.t 30))⟩,
         ⟨(some 31), none, (.ex (.t 27) 0)⟩,
         ⟨(some 32), none, (.ex (.t 27) 1)⟩,
         ⟨(some 8), none, (.mv (.t 31))⟩,
         ⟨(some 9), none, (.mv (.t 32))⟩])
       (.seq
        (.reg 5 none [4, 6, 7, 8, 9, 10] [
          ⟨(some 10), none, (.mv (.k (.v (.slice none 0 0))))⟩])
        (.seq
         (.reg 6 none [4, 6, 7, 8, 9, 10, 11] [
           ⟨(some 11), none, (.mv (.k (.v (.bool true))))⟩])
         (.seq
          (.seq
           (.reg 7 none [4, 7, 8, 9, 10, 11, 33, 34, 35] [
             ⟨(some 33), none, (.mv (.t 6))⟩,
             ⟨(some 34), none, (.lenL (.t 33))⟩,
             ⟨(some 35), none, (.mv (.k (.v (.int .i64 0))))⟩])
           (.block 0
            (.loop
             (.seq
              (.reg 8 none [4, 7, 8, 9, 10, 11, 33, 34, 35, 36] [
                ⟨(some 36), none, (.bin .lss false (.t 35) (.t 34))⟩])
              (.seq
               (.cond (.t 36)
                .skip
                (.exit 0))
               (.seq
                (.block 1
                 (.seq
                  (.reg 9 none [4, 7, 8, 9, 10, 11, 13, 33, 34, 35] [
                    ⟨(some 37), none, (.ixL 3 (.t 33) (.t 35))⟩,
                    ⟨(some 38), none, (.ld (some 3) (.t 37))⟩,
                    ⟨(some 13), none, (.new (.agg [(.v (.int .i64 0)), (.v (.slice none 0 0)), (.v (.slice none 0 0))]))⟩,
                    ⟨none, none, (.st 3 (.t 13) (.t 38))⟩])
                  (.seq
                   (.reg 10 none [4, 7, 8, 9, 10, 11, 14, 15, 33, 34, 35] [
                     ⟨(some 40), none, (.ld (some 1) (.t 4))⟩,
                     ⟨(some 41), none, (.ld (some 3) (.t 13))⟩,
                     ⟨(some 42), none, (.call (.k (.clo F_equations_Of [])) [(.t 40), (.t 41)])⟩,
                     ⟨(some 39), none, (.mv (.t 42))⟩,
                     ⟨(some 43), none, (.ex (.t 39) 0)⟩,
                     ⟨(some 44), none, (.ex (.t 39) 1)⟩,
                     ⟨(some 14), none, (.mv (.t 43))⟩,
                     ⟨(some 15), none, (.mv (.t 44))⟩])
                   (.seq
                    (.seq
                     (.reg 11 none [4, 7, 8, 9, 10, 11, 14, 33, 34, 35, 46] [
                       ⟨(some 45), none, (.mv (.t 15))⟩,
                       ⟨(some 46), none, (.bin .neq false (.t 45) (.k (.v (.int .i64 0))))⟩])
                     (.cond (.t 46)
                      (.seq
                       (.reg 12 none [2] [
                         ⟨(some 2), none, (.mv (.k (.v (.bool false))))⟩])
                       .ret)
                      .skip))
                    (.seq
                     (.reg 13 none [4, 7, 8, 9, 10, 11, 14, 33, 34, 35] [
                       ⟨(some 47), none, (.mv (.t 10))⟩,
                       ⟨(some 48), none, (.mv (.t 14))⟩,
                       ⟨(some 49), none, (.app 2 32 false (.t 47) (.t 48))⟩,
                       ⟨(some 10), none, (.mv (.t 49))⟩])
                     (.reg 14 none [4, 7, 8, 9, 10, 11, 33, 34, 35] [
                       ⟨(some 50), none, (.mv (.t 11))⟩,
                       ⟨(some 51), none, (.mv (.t 50))⟩,
                       ⟨(some 52), (some (51, true)), (.mv (.t 14))⟩,
                       ⟨(some 53), (some (51, true)), (.mv (.t 7))⟩,
                       ⟨(some 54), (some (51, true)), (.call (.k (.clo F_equations_Agrees [])) [(.t 52), (.t 53)])⟩,
                       ⟨(some 55), none, (.pick (.t 51) (.t 54) (.k (.v (.bool false))))⟩,
                       ⟨(some 11), none, (.mv (.t 55))⟩]))))))
                (.reg 15 none [4, 7, 8, 9, 10, 11, 33, 34, 35] [
                  ⟨(some 56), none, (.bin .add false (.t 35) (.k (.v (.int .i64 1))))⟩,
                  ⟨(some 35), none, (.mv (.t 56))⟩])))))))
          (.seq
           (.reg 16 none [2] [
             ⟨(some 57), none, (.mv (.t 9))⟩,
             ⟨(some 58), none, (.bin .eql false (.t 57) (.k (.v (.int .i64 0))))⟩,
             ⟨(some 59), none, (.mv (.t 58))⟩,
             ⟨(some 60), (some (59, true)), (.mv (.t 8))⟩,
             ⟨(some 61), (some (59, true)), (.mv (.t 10))⟩,
             ⟨(some 62), (some (59, true)), (.call (.k (.clo F_ref29_Same [])) [(.t 60), (.t 61)])⟩,
             ⟨(some 63), none, (.pick (.t 59) (.t 62) (.k (.v (.bool false))))⟩,
             ⟨(some 64), none, (.mv (.t 63))⟩,
             ⟨(some 65), (some (64, true)), (.mv (.t 8))⟩,
             ⟨(some 66), (some (64, true)), (.mv (.t 7))⟩,
             ⟨(some 67), (some (64, true)), (.call (.k (.clo F_equations_Agrees [])) [(.t 65), (.t 66)])⟩,
             ⟨(some 68), (some (64, true)), (.mv (.t 11))⟩,
             ⟨(some 69), (some (64, true)), (.bin .eql true (.t 67) (.t 68))⟩,
             ⟨(some 70), none, (.pick (.t 64) (.t 69) (.k (.v (.bool false))))⟩,
             ⟨(some 71), none, (.mv (.t 70))⟩,
             ⟨(some 72), (some (71, true)), (.call (.k (.clo F_law29_awake [])) [])⟩,
             ⟨(some 73), none, (.pick (.t 71) (.t 72) (.k (.v (.bool false))))⟩,
             ⟨(some 2), none, (.mv (.t 73))⟩])
           .ret)))))))))
theorem fn_law29_EquationsParts : FnIR Try.prog F_law29_EquationsParts 74 [(0, [0]), (1, [3]), (2, [3, 4, 6]), (3, [4, 6, 7]), (4, [4, 6, 7, 8, 9]), (5, [4, 6, 7, 8, 9, 10]), (6, [4, 6, 7, 8, 9, 10, 11]), (7, [4, 7, 8, 9, 10, 11, 33, 34, 35]), (8, [4, 7, 8, 9, 10, 11, 33, 34, 35, 36]), (9, [4, 7, 8, 9, 10, 11, 13, 33, 34, 35]), (10, [4, 7, 8, 9, 10, 11, 14, 15, 33, 34, 35]), (11, [4, 7, 8, 9, 10, 11, 14, 33, 34, 35, 46]), (12, [2]), (13, [4, 7, 8, 9, 10, 11, 14, 33, 34, 35]), (14, [4, 7, 8, 9, 10, 11, 33, 34, 35]), (15, [4, 7, 8, 9, 10, 11, 33, 34, 35]), (16, [2])] ir_law29_EquationsParts [(.tmp 2)] :=
  ⟨Try.f3, _, Try.func3, rfl, by kernel_rfl, rfl, by kernel_rfl, by kernel_rfl⟩

/-- dataenclave/dataenclavelaw29.EquationsTrue -/
def ir_law29_EquationsTrue : RC :=
  (.seq
   (.reg 0 none [0] [
     ⟨(some 2), none, (.mv (.k (.v (.bool false))))⟩])
   (.seq
    (.reg 1 none [3] [
      ⟨(some 17), none, (.mv (.t 0))⟩,
      ⟨(some 18), none, (.call (.k (.clo F_draw_New [])) [(.t 17)])⟩,
      ⟨(some 3), none, (.mv (.t 18))⟩])
    (.seq
     (.reg 2 none [3, 4, 5, 6] [
       ⟨(some 20), none, (.mv (.t 3))⟩,
       ⟨(some 21), none, (.call (.k (.clo F_made_Told [])) [(.t 20), (.k (.v (.int .i64 3))), (.k (.v (.int .i64 4)))])⟩,
       ⟨(some 19), none, (.mv (.t 21))⟩,
       ⟨(some 22), none, (.ex (.t 19) 0)⟩,
       ⟨(some 23), none, (.ex (.t 19) 1)⟩,
       ⟨(some 24), none, (.ex (.t 19) 2)⟩,
       ⟨(some 4), none, (.new (.agg [(.v (.slice none 0 0))]))⟩,
       ⟨none, none, (.st 1 (.t 4) (.t 22))⟩,
       ⟨(some 5), none, (.mv (.t 23))⟩,
       ⟨(some 6), none, (.mv (.t 24))⟩])
     (.seq
      (.reg 3 none [4, 5, 6, 7] [
        ⟨(some 25), none, (.mv (.t 3))⟩,
        ⟨(some 26), none, (.ld (some 1) (.t 4))⟩,
        ⟨(some 27), none, (.call (.k (.clo F_made_Cells [])) [(.t 25), (.t 26), (.k (.v (.int .i64 3)))])⟩,
        ⟨(some 7), none, (.mv (.t 27))⟩])
      (.seq
       (.reg 4 none [4, 5, 6, 7, 8, 9] [
         ⟨(some 29), none, (.ld (some 1) (.t 4))⟩,
         ⟨(some 30), none, (.mv (.t 6))⟩,
         ⟨(some 31), none, (.call (.k (.clo F_equations_All [])) [(.t 29), (.t 30)])⟩,
         ⟨(some 28), none, (.mv (.t 31))⟩,
         ⟨(some 32), none, (.ex (.t 28) 0)⟩,
         ⟨(some 33), none, (.ex (.t 28) 1)⟩,
         ⟨(some 8), none, (.mv (.t 32))⟩,
         ⟨(some 9), none, (.mv (.t 33))⟩])
       (.seq
        (.reg 5 none [4, 5, 6, 7, 8, 9, 10] [
          ⟨(some 10), none, (.mv (.k (.v (.bool true))))⟩])
        (.seq
         (.seq
          (.reg 6 none [4, 5, 7, 8, 9, 10, 34, 35, 36] [
            ⟨(some 34), none, (.mv (.t 6))⟩,
            ⟨(some 35), none, (.lenL (.t 34))⟩,
            ⟨(some 36), none, (.mv (.k (.v (.int .i64 0))))⟩])
          (.block 0
           (.loop
            (.seq
             (.reg 7 none [4, 5, 7, 8, 9, 10, 34, 35, 36, 37] [
               ⟨(some 37), none, (.bin .lss false (.t 36) (.t 35))⟩])
             (.seq
              (.cond (.t 37)
               .skip
               (.exit 0))
              (.seq
               (.block 1
                (.seq
                 (.reg 8 none [4, 5, 7, 8, 9, 10, 12, 34, 35, 36] [
                   ⟨(some 38), none, (.ixL 3 (.t 34) (.t 36))⟩,
                   ⟨(some 39), none, (.ld (some 3) (.t 38))⟩,
                   ⟨(some 12), none, (.new (.agg [(.v (.int .i64 0)), (.v (.slice none 0 0)), (.v (.slice none 0 0))]))⟩,
                   ⟨none, none, (.st 3 (.t 12) (.t 39))⟩])
                 (.seq
                  (.reg 9 none [4, 5, 7, 8, 9, 10, 12, 13, 34, 35, 36] [
                    ⟨(some 41), none, (.ld (some 1) (.t 4))⟩,
                    ⟨(some 42), none, (.fa 1 (.t 12))⟩,
                    ⟨(some 43), none, (.ld (some 1) (.t 42))⟩,
                    ⟨(some 44), none, (.mv (.t 7))⟩,
                    ⟨(some 45), none, (.call (.k (.clo F_ref28_Publish [])) [(.t 41), (.t 43), (.t 44)])⟩,
                    ⟨(some 40), none, (.mv (.t 45))⟩,
                    ⟨(some 46), none, (.ex (.t 40) 0)⟩,
                    ⟨(some 47), none, (.ex (.t 40) 1)⟩,
                    ⟨(some 13), none, (.mv (.t 46))⟩,
                    ⟨(some 14), none, (.mv (.t 47))⟩])
                  (.seq
                   (.reg 10 none [4, 5, 7, 8, 9, 10, 13, 34, 35, 36, 49, 50, 51] [
                     ⟨(some 48), none, (.fa 2 (.t 12))⟩,
                     ⟨(some 49), none, (.ld none (.t 48))⟩,
                     ⟨(some 50), none, (.lenL (.t 49))⟩,
                     ⟨(some 51), none, (.mv (.k (.v (.int .i64 0))))⟩])
                   (.block 2
                    (.loop
                     (.seq
                      (.reg 11 none [4, 5, 7, 8, 9, 10, 13, 34, 35, 36, 49, 50, 51, 52] [
                        ⟨(some 52), none, (.bin .lss false (.t 51) (.t 50))⟩])
                      (.seq
                       (.cond (.t 52)
                        .skip
                        (.exit 2))
                       (.seq
                        (.block 3
                         (.seq
                          (.reg 12 none [4, 5, 7, 8, 9, 10, 13, 15, 16, 34, 35, 36, 49, 50, 51] [
                            ⟨(some 53), none, (.mv (.t 51))⟩,
                            ⟨(some 54), none, (.ixL 1 (.t 49) (.t 51))⟩,
                            ⟨(some 55), none, (.ld none (.t 54))⟩,
                            ⟨(some 15), none, (.mv (.t 53))⟩,
                            ⟨(some 16), none, (.mv (.t 55))⟩])
                          (.reg 13 none [4, 5, 7, 8, 9, 10, 13, 34, 35, 36, 49, 50, 51] [
                            ⟨(some 56), none, (.mv (.t 10))⟩,
                            ⟨(some 57), none, (.mv (.t 56))⟩,
                            ⟨(some 58), (some (57, true)), (.mv (.t 16))⟩,
                            ⟨(some 59), (some (57, true)), (.bin .eql false (.t 58) (.k (.v (.int .i64 (-1)))))⟩,
                            ⟨(some 60), (some (57, true)), (.mv (.t 59))⟩,
                            ⟨(some 61), (some (60, false)), (.mv (.t 13))⟩,
                            ⟨(some 62), (some (60, false)), (.mv (.t 15))⟩,
                            ⟨(some 63), (some (60, false)), (.ixL 1 (.t 61) (.t 62))⟩,
                            ⟨(some 64), (some (60, false)), (.ld none (.t 63))⟩,
                            ⟨(some 65), (some (60, false)), (.mv (.t 16))⟩,
                            ⟨(some 66), (some (60, false)), (.bin .eql false (.t 64) (.t 65))⟩,
                            ⟨(some 67), (some (57, true)), (.pick (.t 60) (.k (.v (.bool true))) (.t 66))⟩,
                            ⟨(some 68), none, (.pick (.t 57) (.t 67) (.k (.v (.bool false))))⟩,
                            ⟨(some 10), none, (.mv (.t 68))⟩])))
                        (.reg 14 none [4, 5, 7, 8, 9, 10, 13, 34, 35, 36, 49, 50, 51] [
                          ⟨(some 69), none, (.bin .add false (.t 51) (.k (.v (.int .i64 1))))⟩,
                          ⟨(some 51), none, (.mv (.t 69))⟩]))))))))))
               (.reg 15 none [4, 5, 7, 8, 9, 10, 34, 35, 36] [
                 ⟨(some 70), none, (.bin .add false (.t 36) (.k (.v (.int .i64 1))))⟩,
                 ⟨(some 36), none, (.mv (.t 70))⟩])))))))
         (.seq
          (.reg 16 none [2] [
            ⟨(some 71), none, (.mv (.t 9))⟩,
            ⟨(some 72), none, (.bin .eql false (.t 71) (.k (.v (.int .i64 0))))⟩,
            ⟨(some 73), none, (.mv (.t 72))⟩,
            ⟨(some 74), (some (73, true)), (.ld (some 1) (.t 4))⟩,
            ⟨(some 75), (some (73, true)), (.call (.k (.clo F_ref28_Count [])) [(.t 74)])⟩,
            ⟨(some 76), (some (73, true)), (.mv (.t 8))⟩,
            ⟨(some 77), (some (73, true)), (.call (.k (.clo F_equations_Valid [])) [(.t 75), (.t 76)])⟩,
            ⟨(some 78), none, (.pick (.t 73) (.t 77) (.k (.v (.bool false))))⟩,
            ⟨(some 79), none, (.mv (.t 78))⟩,
            ⟨(some 80), (some (79, true)), (.mv (.t 8))⟩,
            ⟨(some 81), (some (79, true)), (.mv (.t 5))⟩,
            ⟨(some 82), (some (79, true)), (.call (.k (.clo F_equations_Agrees [])) [(.t 80), (.t 81)])⟩,
            ⟨(some 83), none, (.pick (.t 79) (.t 82) (.k (.v (.bool false))))⟩,
            ⟨(some 84), none, (.mv (.t 83))⟩,
            ⟨(some 85), (some (84, true)), (.mv (.t 8))⟩,
            ⟨(some 86), (some (84, true)), (.mv (.t 7))⟩,
            ⟨(some 87), (some (84, true)), (.call (.k (.clo F_equations_Agrees [])) [(.t 85), (.t 86)])⟩,
            ⟨(some 88), (some (84, true)), (.mv (.t 10))⟩,
            ⟨(some 89), (some (84, true)), (.bin .eql true (.t 87) (.t 88))⟩,
            ⟨(some 90), none, (.pick (.t 84) (.t 89) (.k (.v (.bool false))))⟩,
            ⟨(some 91), none, (.mv (.t 90))⟩,
            ⟨(some 92), (some (91, true)), (.call (.k (.clo F_law29_awake [])) [])⟩,
            ⟨(some 93), none, (.pick (.t 91) (.t 92) (.k (.v (.bool false))))⟩,
            ⟨(some 2), none, (.mv (.t 93))⟩])
          .ret))))))))
theorem fn_law29_EquationsTrue : FnIR Try.prog F_law29_EquationsTrue 94 [(0, [0]), (1, [3]), (2, [3, 4, 5, 6]), (3, [4, 5, 6, 7]), (4, [4, 5, 6, 7, 8, 9]), (5, [4, 5, 6, 7, 8, 9, 10]), (6, [4, 5, 7, 8, 9, 10, 34, 35, 36]), (7, [4, 5, 7, 8, 9, 10, 34, 35, 36, 37]), (8, [4, 5, 7, 8, 9, 10, 12, 34, 35, 36]), (9, [4, 5, 7, 8, 9, 10, 12, 13, 34, 35, 36]), (10, [4, 5, 7, 8, 9, 10, 13, 34, 35, 36, 49, 50, 51]), (11, [4, 5, 7, 8, 9, 10, 13, 34, 35, 36, 49, 50, 51, 52]), (12, [4, 5, 7, 8, 9, 10, 13, 15, 16, 34, 35, 36, 49, 50, 51]), (13, [4, 5, 7, 8, 9, 10, 13, 34, 35, 36, 49, 50, 51]), (14, [4, 5, 7, 8, 9, 10, 13, 34, 35, 36, 49, 50, 51]), (15, [4, 5, 7, 8, 9, 10, 34, 35, 36]), (16, [2])] ir_law29_EquationsTrue [(.tmp 2)] :=
  ⟨Try.f4, _, Try.func4, rfl, by kernel_rfl, rfl, by kernel_rfl, by kernel_rfl⟩

/-- dataenclave/dataenclavedraw.New -/
def ir_draw_New : RC :=
  (.seq
   (.reg 0 none [0] [
     ⟨(some 2), none, (.mv (.k (.v (.pointer none))))⟩])
   (.seq
    (.reg 1 none [2] [
      ⟨(some 3), none, (.mv (.t 0))⟩,
      ⟨(some 4), none, (.mv (.t 0))⟩,
      ⟨(some 5), none, (.lenL (.t 4))⟩,
      ⟨(some 6), none, (.mn [(.t 5), (.k (.v (.int .i64 400)))])⟩,
      ⟨(some 7), none, (.slL 1 (.t 3) none (some (.t 6)))⟩,
      ⟨(some 8), none, (.build [(.v (.slice none 0 0)), (.v (.int .i64 0))] [((0, 1), (.t 7))])⟩,
      ⟨(some 9), none, (.box (.t 8))⟩,
      ⟨(some 2), none, (.mv (.t 9))⟩])
    .ret))
theorem fn_draw_New : FnIR Try.prog F_draw_New 10 [(0, [0]), (1, [2])] ir_draw_New [(.tmp 2)] :=
  ⟨Try.f5, _, Try.func5, rfl, by kernel_rfl, rfl, by kernel_rfl, by kernel_rfl⟩

/-- dataenclave/dataenclavemade.Told -/
def ir_made_Told : RC :=
  (.seq
   (.reg 0 none [0, 1, 2, 6] [
     ⟨(some 6), none, (.new (.agg [(.v (.slice none 0 0))]))⟩,
     ⟨(some 7), none, (.mv (.k (.v (.slice none 0 0))))⟩,
     ⟨(some 8), none, (.mv (.k (.v (.slice none 0 0))))⟩])
   (.seq
    (.reg 1 none [0, 1, 2, 6, 9] [
      ⟨(some 11), none, (.mv (.t 0))⟩,
      ⟨(some 12), none, (.call (.k (.clo F_made_Space [])) [(.t 11)])⟩,
      ⟨(some 9), none, (.new (.agg [(.v (.slice none 0 0))]))⟩,
      ⟨none, none, (.st 1 (.t 9) (.t 12))⟩])
    (.seq
     (.reg 2 none [0, 2, 6, 9, 10] [
       ⟨(some 13), none, (.mv (.t 0))⟩,
       ⟨(some 14), none, (.ld (some 1) (.t 9))⟩,
       ⟨(some 15), none, (.mv (.t 1))⟩,
       ⟨(some 16), none, (.call (.k (.clo F_made_Cells [])) [(.t 13), (.t 14), (.t 15)])⟩,
       ⟨(some 10), none, (.mv (.t 16))⟩])
     (.seq
      (.reg 3 (some [0, 0, 0, 0, 0, 0, 60, 125, 255, 511]) [6, 7, 8] [
        ⟨(some 17), none, (.ld (some 1) (.t 9))⟩,
        ⟨(some 18), none, (.mv (.t 10))⟩,
        ⟨(some 19), none, (.mv (.t 0))⟩,
        ⟨(some 20), none, (.ld (some 1) (.t 9))⟩,
        ⟨(some 21), none, (.mv (.t 10))⟩,
        ⟨(some 22), none, (.mv (.t 2))⟩,
        ⟨(some 23), none, (.call (.k (.clo F_made_Releases [])) [(.t 19), (.t 20), (.t 21), (.t 22)])⟩,
        ⟨none, none, (.st 1 (.t 6) (.t 17))⟩,
        ⟨(some 7), none, (.mv (.t 18))⟩,
        ⟨(some 8), none, (.mv (.t 23))⟩])
      .ret))))
theorem fn_made_Told : FnIR Try.prog F_made_Told 24 [(0, [0, 1, 2, 6]), (1, [0, 1, 2, 6, 9]), (2, [0, 2, 6, 9, 10]), (3, [6, 7, 8])] ir_made_Told [(.cell 6 (some 1)), (.tmp 7), (.tmp 8)] :=
  ⟨Try.f6, _, Try.func6, rfl, by kernel_rfl, rfl, by kernel_rfl, by kernel_rfl⟩

/-- dataenclave/dataenclavemade.Cells -/
def ir_made_Cells : RC :=
  (.seq
   (.reg 0 none [0, 2, 4] [
     ⟨(some 4), none, (.box (.t 1))⟩,
     ⟨(some 6), none, (.mv (.k (.v (.slice none 0 0))))⟩])
   (.seq
    (.reg 1 none [0, 2, 7] [
      ⟨(some 9), none, (.ld (some 1) (.t 4))⟩,
      ⟨(some 10), none, (.call (.k (.clo F_ref28_Count [])) [(.t 9)])⟩,
      ⟨(some 11), none, (.mk 1 8 (.v (.int .i64 0)) (.t 10) (.t 10))⟩,
      ⟨(some 7), none, (.mv (.t 11))⟩])
    (.seq
     (.seq
      (.reg 2 none [0, 2, 7, 13, 14] [
        ⟨(some 12), none, (.mv (.t 7))⟩,
        ⟨(some 13), none, (.lenL (.t 12))⟩,
        ⟨(some 14), none, (.mv (.k (.v (.int .i64 0))))⟩])
      (.block 0
       (.loop
        (.seq
         (.reg 3 none [0, 2, 7, 13, 14, 15] [
           ⟨(some 15), none, (.bin .lss false (.t 14) (.t 13))⟩])
         (.seq
          (.cond (.t 15)
           .skip
           (.exit 0))
          (.seq
           (.block 1
            (.seq
             (.reg 4 none [0, 2, 7, 8, 13, 14] [
               ⟨(some 16), none, (.mv (.t 14))⟩,
               ⟨(some 8), none, (.mv (.t 16))⟩])
             (.reg 5 none [0, 2, 7, 13, 14] [
               ⟨(some 17), none, (.mv (.t 7))⟩,
               ⟨(some 18), none, (.mv (.t 8))⟩,
               ⟨(some 19), none, (.mv (.t 0))⟩,
               ⟨(some 20), none, (.mv (.t 2))⟩,
               ⟨(some 21), none, (.bin .add false (.t 20) (.k (.v (.int .i64 1))))⟩,
               ⟨(some 22), none, (.call (.k (.clo F_draw_Codes_Next [])) [(.t 19), (.t 21)])⟩,
               ⟨(some 23), none, (.ixL 1 (.t 17) (.t 18))⟩,
               ⟨none, none, (.st 1 (.t 23) (.t 22))⟩])))
           (.reg 6 none [0, 2, 7, 13, 14] [
             ⟨(some 24), none, (.bin .add false (.t 14) (.k (.v (.int .i64 1))))⟩,
             ⟨(some 14), none, (.mv (.t 24))⟩])))))))
     (.seq
      (.reg 7 none [6] [
        ⟨(some 25), none, (.mv (.t 7))⟩,
        ⟨(some 6), none, (.mv (.t 25))⟩])
      .ret))))
theorem fn_made_Cells : FnIR Try.prog F_made_Cells 26 [(0, [0, 2, 4]), (1, [0, 2, 7]), (2, [0, 2, 7, 13, 14]), (3, [0, 2, 7, 13, 14, 15]), (4, [0, 2, 7, 8, 13, 14]), (5, [0, 2, 7, 13, 14]), (6, [0, 2, 7, 13, 14]), (7, [6])] ir_made_Cells [(.tmp 6)] :=
  ⟨Try.f7, _, Try.func7, rfl, by kernel_rfl, rfl, by kernel_rfl, by kernel_rfl⟩

/-- dataenclave/equations.All -/
def ir_equations_All : RC :=
  (.seq
   (.reg 0 none [1, 2] [
     ⟨(some 2), none, (.box (.t 0))⟩,
     ⟨(some 4), none, (.mv (.k (.v (.slice none 0 0))))⟩,
     ⟨(some 5), none, (.mv (.k (.v (.int .i64 0))))⟩])
   (.seq
    (.seq
     (.reg 1 none [1, 2, 6] [
       ⟨(some 10), none, (.ld (some 1) (.t 2))⟩,
       ⟨(some 11), none, (.mv (.t 1))⟩,
       ⟨(some 12), none, (.call (.k (.clo F_equations_Check [])) [(.t 10), (.t 11)])⟩,
       ⟨(some 6), none, (.mv (.t 12))⟩])
     (.seq
      (.reg 2 none [1, 2, 6, 14] [
        ⟨(some 13), none, (.mv (.t 6))⟩,
        ⟨(some 14), none, (.bin .neq false (.t 13) (.k (.v (.int .i64 0))))⟩])
      (.cond (.t 14)
       (.seq
        (.reg 3 none [4, 5] [
          ⟨(some 15), none, (.mv (.t 6))⟩,
          ⟨(some 4), none, (.mv (.k (.v (.slice none 0 0))))⟩,
          ⟨(some 5), none, (.mv (.t 15))⟩])
        .ret)
       .skip)))
    (.seq
     (.reg 4 none [1, 2, 7] [
       ⟨(some 7), none, (.mv (.k (.v (.slice none 0 0))))⟩])
     (.seq
      (.seq
       (.reg 5 none [2, 7, 16, 17, 18] [
         ⟨(some 16), none, (.mv (.t 1))⟩,
         ⟨(some 17), none, (.lenL (.t 16))⟩,
         ⟨(some 18), none, (.mv (.k (.v (.int .i64 0))))⟩])
       (.block 0
        (.loop
         (.seq
          (.reg 6 none [2, 7, 16, 17, 18, 19] [
            ⟨(some 19), none, (.bin .lss false (.t 18) (.t 17))⟩])
          (.seq
           (.cond (.t 19)
            .skip
            (.exit 0))
           (.seq
            (.block 1
             (.seq
              (.reg 7 none [2, 7, 9, 16, 17, 18] [
                ⟨(some 20), none, (.ixL 3 (.t 16) (.t 18))⟩,
                ⟨(some 21), none, (.ld (some 3) (.t 20))⟩,
                ⟨(some 9), none, (.new (.agg [(.v (.int .i64 0)), (.v (.slice none 0 0)), (.v (.slice none 0 0))]))⟩,
                ⟨none, none, (.st 3 (.t 9) (.t 21))⟩])
              (.reg 8 none [2, 7, 16, 17, 18] [
                ⟨(some 22), none, (.mv (.t 7))⟩,
                ⟨(some 23), none, (.ld (some 1) (.t 2))⟩,
                ⟨(some 24), none, (.ld (some 3) (.t 9))⟩,
                ⟨(some 25), none, (.call (.k (.clo F_equations_told [])) [(.t 23), (.t 24)])⟩,
                ⟨(some 26), none, (.app 2 32 false (.t 22) (.t 25))⟩,
                ⟨(some 7), none, (.mv (.t 26))⟩])))
            (.reg 9 none [2, 7, 16, 17, 18] [
              ⟨(some 27), none, (.bin .add false (.t 18) (.k (.v (.int .i64 1))))⟩,
              ⟨(some 18), none, (.mv (.t 27))⟩])))))))
      (.seq
       (.reg 10 none [4, 5] [
         ⟨(some 28), none, (.mv (.t 7))⟩,
         ⟨(some 4), none, (.mv (.t 28))⟩,
         ⟨(some 5), none, (.mv (.k (.v (.int .i64 0))))⟩])
       .ret)))))
theorem fn_equations_All : FnIR Try.prog F_equations_All 29 [(0, [1, 2]), (1, [1, 2, 6]), (2, [1, 2, 6, 14]), (3, [4, 5]), (4, [1, 2, 7]), (5, [2, 7, 16, 17, 18]), (6, [2, 7, 16, 17, 18, 19]), (7, [2, 7, 9, 16, 17, 18]), (8, [2, 7, 16, 17, 18]), (9, [2, 7, 16, 17, 18]), (10, [4, 5])] ir_equations_All [(.tmp 4), (.tmp 5)] :=
  ⟨Try.f8, _, Try.func8, rfl, by kernel_rfl, rfl, by kernel_rfl, by kernel_rfl⟩

/-- dataenclave/equations.Of -/
def ir_equations_Of : RC :=
  (.seq
   (.reg 0 none [2, 3] [
     ⟨(some 2), none, (.box (.t 0))⟩,
     ⟨(some 3), none, (.box (.t 1))⟩,
     ⟨(some 4), none, (.mv (.k (.v (.slice none 0 0))))⟩,
     ⟨(some 5), none, (.mv (.k (.v (.int .i64 0))))⟩])
   (.seq
    (.reg 1 none [4, 5] [
      ⟨(some 6), none, (.ld (some 1) (.t 2))⟩,
      ⟨(some 7), none, (.ld (some 3) (.t 3))⟩,
      ⟨(some 8), none, (.bsl 3 1 [(.t 7)])⟩,
      ⟨(some 9), none, (.call (.k (.clo F_equations_All [])) [(.t 6), (.t 8)])⟩,
      ⟨(some 10), none, (.ex (.t 9) 0)⟩,
      ⟨(some 11), none, (.ex (.t 9) 1)⟩,
      ⟨(some 4), none, (.mv (.t 10))⟩,
      ⟨(some 5), none, (.mv (.t 11))⟩])
    .ret))
theorem fn_equations_Of : FnIR Try.prog F_equations_Of 12 [(0, [2, 3]), (1, [4, 5])] ir_equations_Of [(.tmp 4), (.tmp 5)] :=
  ⟨Try.f9, _, Try.func9, rfl, by kernel_rfl, rfl, by kernel_rfl, by kernel_rfl⟩

/-- dataenclave/equations.Agrees -/
def ir_equations_Agrees : RC :=
  (.seq
   (.reg 0 none [0, 1] [
     ⟨(some 4), none, (.mv (.k (.v (.bool false))))⟩])
   (.seq
    (.seq
     (.reg 1 none [0, 1, 11] [
       ⟨(some 10), none, (.mv (.t 1))⟩,
       ⟨(some 11), none, (.call (.k (.clo F_slices_ContainsFunc_int [])) [(.t 10), (.k (.clo F_equations_Agrees_1 []))])⟩])
     (.cond (.t 11)
      (.seq
       (.reg 2 none [4] [
         ⟨(some 4), none, (.mv (.k (.v (.bool false))))⟩])
       .ret)
      .skip))
    (.seq
     (.seq
      (.reg 3 none [1, 12, 13, 14] [
        ⟨(some 12), none, (.mv (.t 0))⟩,
        ⟨(some 13), none, (.lenL (.t 12))⟩,
        ⟨(some 14), none, (.mv (.k (.v (.int .i64 0))))⟩])
      (.block 0
       (.loop
        (.seq
         (.reg 4 none [1, 12, 13, 14, 15] [
           ⟨(some 15), none, (.bin .lss false (.t 14) (.t 13))⟩])
         (.seq
          (.cond (.t 15)
           .skip
           (.exit 0))
          (.seq
           (.block 1
            (.seq
             (.reg 5 none [1, 6, 12, 13, 14] [
               ⟨(some 16), none, (.ixL 2 (.t 12) (.t 14))⟩,
               ⟨(some 17), none, (.ld (some 2) (.t 16))⟩,
               ⟨(some 6), none, (.new (.agg [(.v (.slice none 0 0)), (.v (.int .i64 0))]))⟩,
               ⟨none, none, (.st 2 (.t 6) (.t 17))⟩])
             (.seq
              (.reg 6 none [1, 6, 7, 12, 13, 14] [
                ⟨(some 7), none, (.mv (.k (.v (.int .i64 0))))⟩])
              (.seq
               (.seq
                (.reg 7 none [1, 6, 7, 12, 13, 14, 19, 20, 21] [
                  ⟨(some 18), none, (.fa 0 (.t 6))⟩,
                  ⟨(some 19), none, (.ld none (.t 18))⟩,
                  ⟨(some 20), none, (.lenL (.t 19))⟩,
                  ⟨(some 21), none, (.mv (.k (.v (.int .i64 0))))⟩])
                (.block 2
                 (.loop
                  (.seq
                   (.reg 8 none [1, 6, 7, 12, 13, 14, 19, 20, 21, 22] [
                     ⟨(some 22), none, (.bin .lss false (.t 21) (.t 20))⟩])
                   (.seq
                    (.cond (.t 22)
                     .skip
                     (.exit 2))
                    (.seq
                     (.block 3
                      (.seq
                       (.reg 9 none [1, 6, 7, 9, 12, 13, 14, 19, 20, 21] [
                         ⟨(some 23), none, (.ixL 1 (.t 19) (.t 21))⟩,
                         ⟨(some 24), none, (.ld none (.t 23))⟩,
                         ⟨(some 9), none, (.mv (.t 24))⟩])
                       (.seq
                        (.seq
                         (.reg 10 none [1, 6, 7, 9, 12, 13, 14, 19, 20, 21, 32] [
                           ⟨(some 25), none, (.mv (.t 9))⟩,
                           ⟨(some 26), none, (.bin .lss false (.t 25) (.k (.v (.int .i64 0))))⟩,
                           ⟨(some 27), none, (.mv (.t 26))⟩,
                           ⟨(some 28), (some (27, false)), (.mv (.t 9))⟩,
                           ⟨(some 29), (some (27, false)), (.mv (.t 1))⟩,
                           ⟨(some 30), (some (27, false)), (.lenL (.t 29))⟩,
                           ⟨(some 31), (some (27, false)), (.bin .geq false (.t 28) (.t 30))⟩,
                           ⟨(some 32), none, (.pick (.t 27) (.k (.v (.bool true))) (.t 31))⟩])
                         (.cond (.t 32)
                          (.seq
                           (.reg 11 none [4] [
                             ⟨(some 4), none, (.mv (.k (.v (.bool false))))⟩])
                           .ret)
                          .skip))
                        (.reg 12 none [1, 6, 7, 12, 13, 14, 19, 20, 21] [
                          ⟨(some 33), none, (.mv (.t 7))⟩,
                          ⟨(some 34), none, (.mv (.t 1))⟩,
                          ⟨(some 35), none, (.mv (.t 9))⟩,
                          ⟨(some 36), none, (.ixL 1 (.t 34) (.t 35))⟩,
                          ⟨(some 37), none, (.ld none (.t 36))⟩,
                          ⟨(some 38), none, (.bin .add false (.t 33) (.t 37))⟩,
                          ⟨(some 7), none, (.mv (.t 38))⟩]))))
                     (.reg 13 none [1, 6, 7, 12, 13, 14, 19, 20, 21] [
                       ⟨(some 39), none, (.bin .add false (.t 21) (.k (.v (.int .i64 1))))⟩,
                       ⟨(some 21), none, (.mv (.t 39))⟩])))))))
               (.seq
                (.reg 14 none [1, 12, 13, 14, 43] [
                  ⟨(some 40), none, (.mv (.t 7))⟩,
                  ⟨(some 41), none, (.fa 1 (.t 6))⟩,
                  ⟨(some 42), none, (.ld none (.t 41))⟩,
                  ⟨(some 43), none, (.bin .neq false (.t 40) (.t 42))⟩])
                (.cond (.t 43)
                 (.seq
                  (.reg 15 none [4] [
                    ⟨(some 4), none, (.mv (.k (.v (.bool false))))⟩])
                  .ret)
                 .skip))))))
           (.reg 16 none [1, 12, 13, 14] [
             ⟨(some 44), none, (.bin .add false (.t 14) (.k (.v (.int .i64 1))))⟩,
             ⟨(some 14), none, (.mv (.t 44))⟩])))))))
     (.seq
      (.reg 17 none [4] [
        ⟨(some 4), none, (.mv (.k (.v (.bool true))))⟩])
      .ret))))
theorem fn_equations_Agrees : FnIR Try.prog F_equations_Agrees 45 [(0, [0, 1]), (1, [0, 1, 11]), (2, [4]), (3, [1, 12, 13, 14]), (4, [1, 12, 13, 14, 15]), (5, [1, 6, 12, 13, 14]), (6, [1, 6, 7, 12, 13, 14]), (7, [1, 6, 7, 12, 13, 14, 19, 20, 21]), (8, [1, 6, 7, 12, 13, 14, 19, 20, 21, 22]), (9, [1, 6, 7, 9, 12, 13, 14, 19, 20, 21]), (10, [1, 6, 7, 9, 12, 13, 14, 19, 20, 21, 32]), (11, [4]), (12, [1, 6, 7, 12, 13, 14, 19, 20, 21]), (13, [1, 6, 7, 12, 13, 14, 19, 20, 21]), (14, [1, 12, 13, 14, 43]), (15, [4]), (16, [1, 12, 13, 14]), (17, [4])] ir_equations_Agrees [(.tmp 4)] :=
  ⟨Try.f10, _, Try.func10, rfl, by kernel_rfl, rfl, by kernel_rfl, by kernel_rfl⟩

/-- dataenclave/dataenclaveref29.Same -/
def ir_ref29_Same : RC :=
  (.seq
   (.reg 0 none [0, 1] [
     ⟨(some 4), none, (.mv (.k (.v (.bool false))))⟩])
   (.seq
    (.seq
     (.reg 1 none [0, 1, 10] [
       ⟨(some 6), none, (.mv (.t 0))⟩,
       ⟨(some 7), none, (.lenL (.t 6))⟩,
       ⟨(some 8), none, (.mv (.t 1))⟩,
       ⟨(some 9), none, (.lenL (.t 8))⟩,
       ⟨(some 10), none, (.bin .neq false (.t 7) (.t 9))⟩])
     (.cond (.t 10)
      (.seq
       (.reg 2 none [4] [
         ⟨(some 4), none, (.mv (.k (.v (.bool false))))⟩])
       .ret)
      .skip))
    (.seq
     (.seq
      (.reg 3 none [0, 1, 12, 13] [
        ⟨(some 11), none, (.mv (.t 0))⟩,
        ⟨(some 12), none, (.lenL (.t 11))⟩,
        ⟨(some 13), none, (.mv (.k (.v (.int .i64 0))))⟩])
      (.block 0
       (.loop
        (.seq
         (.reg 4 none [0, 1, 12, 13, 14] [
           ⟨(some 14), none, (.bin .lss false (.t 13) (.t 12))⟩])
         (.seq
          (.cond (.t 14)
           .skip
           (.exit 0))
          (.seq
           (.block 1
            (.seq
             (.reg 5 none [0, 1, 5, 12, 13] [
               ⟨(some 15), none, (.mv (.t 13))⟩,
               ⟨(some 5), none, (.mv (.t 15))⟩])
             (.seq
              (.reg 6 (some [0, 0, 3, 7, 15, 0, 0, 96, 224, 480, 1023, 2047, 4095, 4095, 16383, 32767, 65535, 4095, 4095, 397311, 921599, 1970175, 4194303, 8388607, 16777215]) [0, 1, 12, 13, 40] [
                ⟨(some 16), none, (.mv (.t 0))⟩,
                ⟨(some 17), none, (.mv (.t 5))⟩,
                ⟨(some 18), none, (.ixL 2 (.t 16) (.t 17))⟩,
                ⟨(some 19), none, (.fa 1 (.t 18))⟩,
                ⟨(some 20), none, (.ld none (.t 19))⟩,
                ⟨(some 21), none, (.mv (.t 1))⟩,
                ⟨(some 22), none, (.mv (.t 5))⟩,
                ⟨(some 23), none, (.ixL 2 (.t 21) (.t 22))⟩,
                ⟨(some 24), none, (.fa 1 (.t 23))⟩,
                ⟨(some 25), none, (.ld none (.t 24))⟩,
                ⟨(some 26), none, (.bin .neq false (.t 20) (.t 25))⟩,
                ⟨(some 27), none, (.mv (.t 26))⟩,
                ⟨(some 28), (some (27, false)), (.mv (.t 0))⟩,
                ⟨(some 29), (some (27, false)), (.mv (.t 5))⟩,
                ⟨(some 30), (some (27, false)), (.ixL 2 (.t 28) (.t 29))⟩,
                ⟨(some 31), (some (27, false)), (.fa 0 (.t 30))⟩,
                ⟨(some 32), (some (27, false)), (.ld none (.t 31))⟩,
                ⟨(some 33), (some (27, false)), (.mv (.t 1))⟩,
                ⟨(some 34), (some (27, false)), (.mv (.t 5))⟩,
                ⟨(some 35), (some (27, false)), (.ixL 2 (.t 33) (.t 34))⟩,
                ⟨(some 36), (some (27, false)), (.fa 0 (.t 35))⟩,
                ⟨(some 37), (some (27, false)), (.ld none (.t 36))⟩,
                ⟨(some 38), (some (27, false)), (.call (.k (.clo F_ref28_Ints [])) [(.t 32), (.t 37)])⟩,
                ⟨(some 39), (some (27, false)), (.un .not (.t 38))⟩,
                ⟨(some 40), none, (.pick (.t 27) (.k (.v (.bool true))) (.t 39))⟩])
              (.cond (.t 40)
               (.seq
                (.reg 7 none [4] [
                  ⟨(some 4), none, (.mv (.k (.v (.bool false))))⟩])
                .ret)
               .skip))))
           (.reg 8 none [0, 1, 12, 13] [
             ⟨(some 41), none, (.bin .add false (.t 13) (.k (.v (.int .i64 1))))⟩,
             ⟨(some 13), none, (.mv (.t 41))⟩])))))))
     (.seq
      (.reg 9 none [4] [
        ⟨(some 4), none, (.mv (.k (.v (.bool true))))⟩])
      .ret))))
theorem fn_ref29_Same : FnIR Try.prog F_ref29_Same 42 [(0, [0, 1]), (1, [0, 1, 10]), (2, [4]), (3, [0, 1, 12, 13]), (4, [0, 1, 12, 13, 14]), (5, [0, 1, 5, 12, 13]), (6, [0, 1, 12, 13, 40]), (7, [4]), (8, [0, 1, 12, 13]), (9, [4])] ir_ref29_Same [(.tmp 4)] :=
  ⟨Try.f11, _, Try.func11, rfl, by kernel_rfl, rfl, by kernel_rfl, by kernel_rfl⟩

/-- dataenclave/dataenclavelaw29.awake -/
def ir_law29_awake : RC :=
  (.seq
   (.reg 0 none [] [
     ⟨(some 0), none, (.mv (.k (.v (.bool false))))⟩])
   (.seq
    (.reg 1 none [1] [
      ⟨(some 5), none, (.bsl 1 2 [(.k (.v (.int .i64 2))), (.k (.v (.int .i64 2)))])⟩,
      ⟨(some 6), none, (.build [(.v (.slice none 0 0))] [((0, 1), (.t 5))])⟩,
      ⟨(some 1), none, (.new (.agg [(.v (.slice none 0 0))]))⟩,
      ⟨none, none, (.st 1 (.t 1) (.t 6))⟩])
    (.seq
     (.reg 2 none [1, 2] [
       ⟨(some 7), none, (.bsl 1 2 [(.k (.v (.int .i64 0))), (.k (.v (.int .i64 1)))])⟩,
       ⟨(some 8), none, (.bsl 1 2 [(.k (.v (.int .i64 0))), (.k (.v (.int .i64 0)))])⟩,
       ⟨(some 9), none, (.bsl 1 2 [(.t 7), (.t 8)])⟩,
       ⟨(some 10), none, (.build [(.v (.slice none 0 0))] [((0, 1), (.t 9))])⟩,
       ⟨(some 11), none, (.bsl 1 2 [(.k (.v (.int .i64 3))), (.k (.v (.int .i64 (-1))))])⟩,
       ⟨(some 12), none, (.build [(.v (.int .i64 0)), (.v (.slice none 0 0)), (.v (.slice none 0 0))] [((1, 1), (.t 10)), ((2, 1), (.t 11))])⟩,
       ⟨(some 2), none, (.new (.agg [(.v (.int .i64 0)), (.v (.slice none 0 0)), (.v (.slice none 0 0))]))⟩,
       ⟨none, none, (.st 3 (.t 2) (.t 12))⟩])
     (.seq
      (.reg 3 none [3, 4] [
        ⟨(some 14), none, (.ld (some 1) (.t 1))⟩,
        ⟨(some 15), none, (.ld (some 3) (.t 2))⟩,
        ⟨(some 16), none, (.call (.k (.clo F_equations_Of [])) [(.t 14), (.t 15)])⟩,
        ⟨(some 13), none, (.mv (.t 16))⟩,
        ⟨(some 17), none, (.ex (.t 13) 0)⟩,
        ⟨(some 18), none, (.ex (.t 13) 1)⟩,
        ⟨(some 3), none, (.mv (.t 17))⟩,
        ⟨(some 4), none, (.mv (.t 18))⟩])
      (.seq
       (.reg 4 none [0] [
         ⟨(some 19), none, (.mv (.t 4))⟩,
         ⟨(some 20), none, (.bin .eql false (.t 19) (.k (.v (.int .i64 0))))⟩,
         ⟨(some 21), none, (.mv (.t 20))⟩,
         ⟨(some 22), (some (21, true)), (.mv (.t 3))⟩,
         ⟨(some 23), (some (21, true)), (.bsl 1 2 [(.k (.v (.int .i64 0))), (.k (.v (.int .i64 1)))])⟩,
         ⟨(some 24), (some (21, true)), (.build [(.v (.slice none 0 0)), (.v (.int .i64 0))] [((0, 1), (.t 23)), ((1, 1), (.k (.v (.int .i64 3))))])⟩,
         ⟨(some 25), (some (21, true)), (.bsl 2 1 [(.t 24)])⟩,
         ⟨(some 26), (some (21, true)), (.call (.k (.clo F_ref29_Same [])) [(.t 22), (.t 25)])⟩,
         ⟨(some 27), none, (.pick (.t 21) (.t 26) (.k (.v (.bool false))))⟩,
         ⟨(some 28), none, (.mv (.t 27))⟩,
         ⟨(some 29), (some (28, true)), (.mv (.t 3))⟩,
         ⟨(some 30), (some (28, true)), (.bsl 1 4 [(.k (.v (.int .i64 1))), (.k (.v (.int .i64 2))), (.k (.v (.int .i64 0))), (.k (.v (.int .i64 0)))])⟩,
         ⟨(some 31), (some (28, true)), (.call (.k (.clo F_equations_Agrees [])) [(.t 29), (.t 30)])⟩,
         ⟨(some 32), none, (.pick (.t 28) (.t 31) (.k (.v (.bool false))))⟩,
         ⟨(some 33), none, (.mv (.t 32))⟩,
         ⟨(some 34), (some (33, true)), (.mv (.t 3))⟩,
         ⟨(some 35), (some (33, true)), (.bsl 1 4 [(.k (.v (.int .i64 1))), (.k (.v (.int .i64 1))), (.k (.v (.int .i64 0))), (.k (.v (.int .i64 0)))])⟩,
         ⟨(some 36), (some (33, true)), (.call (.k (.clo F_equations_Agrees [])) [(.t 34), (.t 35)])⟩,
         ⟨(some 37), (some (33, true)), (.un .not (.t 36))⟩,
         ⟨(some 38), none, (.pick (.t 33) (.t 37) (.k (.v (.bool false))))⟩,
         ⟨(some 0), none, (.mv (.t 38))⟩])
       .ret)))))
theorem fn_law29_awake : FnIR Try.prog F_law29_awake 39 [(1, [1]), (2, [1, 2]), (3, [3, 4]), (4, [0])] ir_law29_awake [(.tmp 0)] :=
  ⟨Try.f12, _, Try.func12, rfl, by kernel_rfl, rfl, by kernel_rfl, by kernel_rfl⟩

/-- dataenclave/dataenclaveref28.Publish -/
def ir_ref28_Publish : RC :=
  (.seq
   (.reg 0 none [2, 3, 4] [
     ⟨(some 3), none, (.box (.t 0))⟩,
     ⟨(some 4), none, (.box (.t 1))⟩,
     ⟨(some 6), none, (.mv (.k (.v (.slice none 0 0))))⟩,
     ⟨(some 7), none, (.mv (.k (.v (.int .i64 0))))⟩])
   (.seq
    (.seq
     (.reg 1 none [2, 3, 4, 8] [
       ⟨(some 14), none, (.ld (some 1) (.t 3))⟩,
       ⟨(some 15), none, (.ld (some 1) (.t 4))⟩,
       ⟨(some 16), none, (.call (.k (.clo F_ref28_View [])) [(.t 14), (.t 15)])⟩,
       ⟨(some 8), none, (.mv (.t 16))⟩])
     (.seq
      (.reg 2 none [2, 3, 4, 8, 18] [
        ⟨(some 17), none, (.mv (.t 8))⟩,
        ⟨(some 18), none, (.bin .neq false (.t 17) (.k (.v (.int .i64 0))))⟩])
      (.cond (.t 18)
       (.seq
        (.reg 3 none [6, 7] [
          ⟨(some 19), none, (.mv (.t 8))⟩,
          ⟨(some 6), none, (.mv (.k (.v (.slice none 0 0))))⟩,
          ⟨(some 7), none, (.mv (.t 19))⟩])
        .ret)
       .skip)))
    (.seq
     (.seq
      (.reg 4 none [2, 3, 4, 24] [
        ⟨(some 20), none, (.mv (.t 2))⟩,
        ⟨(some 21), none, (.lenL (.t 20))⟩,
        ⟨(some 22), none, (.ld (some 1) (.t 3))⟩,
        ⟨(some 23), none, (.call (.k (.clo F_ref28_Count [])) [(.t 22)])⟩,
        ⟨(some 24), none, (.bin .neq false (.t 21) (.t 23))⟩])
      (.cond (.t 24)
       (.seq
        (.reg 5 none [6, 7] [
          ⟨(some 6), none, (.mv (.k (.v (.slice none 0 0))))⟩,
          ⟨(some 7), none, (.mv (.k (.v (.int .i64 17))))⟩])
        .ret)
       .skip))
     (.seq
      (.seq
       (.reg 6 none [2, 3, 4, 25, 26, 27] [
         ⟨(some 25), none, (.mv (.t 2))⟩,
         ⟨(some 26), none, (.lenL (.t 25))⟩,
         ⟨(some 27), none, (.mv (.k (.v (.int .i64 0))))⟩])
       (.block 0
        (.loop
         (.seq
          (.reg 7 none [2, 3, 4, 25, 26, 27, 28] [
            ⟨(some 28), none, (.bin .lss false (.t 27) (.t 26))⟩])
          (.seq
           (.cond (.t 28)
            .skip
            (.exit 0))
           (.seq
            (.block 1
             (.seq
              (.reg 8 none [2, 3, 4, 10, 25, 26, 27] [
                ⟨(some 29), none, (.ixL 1 (.t 25) (.t 27))⟩,
                ⟨(some 30), none, (.ld none (.t 29))⟩,
                ⟨(some 10), none, (.mv (.t 30))⟩])
              (.seq
               (.reg 9 none [2, 3, 4, 25, 26, 27, 36] [
                 ⟨(some 31), none, (.mv (.t 10))⟩,
                 ⟨(some 32), none, (.bin .lss false (.t 31) (.k (.v (.int .i64 0))))⟩,
                 ⟨(some 33), none, (.mv (.t 32))⟩,
                 ⟨(some 34), (some (33, false)), (.mv (.t 10))⟩,
                 ⟨(some 35), (some (33, false)), (.bin .gtr false (.t 34) (.k (.v (.int .i64 1000000))))⟩,
                 ⟨(some 36), none, (.pick (.t 33) (.k (.v (.bool true))) (.t 35))⟩])
               (.cond (.t 36)
                (.seq
                 (.reg 10 none [6, 7] [
                   ⟨(some 6), none, (.mv (.k (.v (.slice none 0 0))))⟩,
                   ⟨(some 7), none, (.mv (.k (.v (.int .i64 2))))⟩])
                 .ret)
                .skip))))
            (.reg 11 none [2, 3, 4, 25, 26, 27] [
              ⟨(some 37), none, (.bin .add false (.t 27) (.k (.v (.int .i64 1))))⟩,
              ⟨(some 27), none, (.mv (.t 37))⟩])))))))
      (.seq
       (.reg 12 none [2, 3, 4, 11] [
         ⟨(some 38), none, (.ld (some 1) (.t 3))⟩,
         ⟨(some 39), none, (.ld (some 1) (.t 4))⟩,
         ⟨(some 40), none, (.call (.k (.clo F_ref28_Published [])) [(.t 38), (.t 39)])⟩,
         ⟨(some 41), none, (.mk 1 8 (.v (.int .i64 0)) (.t 40) (.t 40))⟩,
         ⟨(some 11), none, (.mv (.t 41))⟩])
       (.seq
        (.seq
         (.reg 13 none [2, 3, 4, 11, 43, 44] [
           ⟨(some 42), none, (.mv (.t 2))⟩,
           ⟨(some 43), none, (.lenL (.t 42))⟩,
           ⟨(some 44), none, (.mv (.k (.v (.int .i64 0))))⟩])
         (.block 2
          (.loop
           (.seq
            (.reg 14 none [2, 3, 4, 11, 43, 44, 45] [
              ⟨(some 45), none, (.bin .lss false (.t 44) (.t 43))⟩])
            (.seq
             (.cond (.t 45)
              .skip
              (.exit 2))
             (.seq
              (.block 3
               (.seq
                (.reg 15 none [2, 3, 4, 11, 12, 43, 44] [
                  ⟨(some 46), none, (.mv (.t 44))⟩,
                  ⟨(some 12), none, (.mv (.t 46))⟩])
                (.seq
                 (.reg 16 none [2, 3, 4, 11, 12, 13, 43, 44] [
                   ⟨(some 47), none, (.ld (some 1) (.t 3))⟩,
                   ⟨(some 48), none, (.ld (some 1) (.t 4))⟩,
                   ⟨(some 49), none, (.mv (.t 12))⟩,
                   ⟨(some 50), none, (.call (.k (.clo F_ref28_Of [])) [(.t 47), (.t 48), (.t 49)])⟩,
                   ⟨(some 13), none, (.mv (.t 50))⟩])
                 (.seq
                  (.reg 17 none [2, 3, 4, 11, 12, 13, 43, 44, 52] [
                    ⟨(some 51), none, (.mv (.t 13))⟩,
                    ⟨(some 52), none, (.bin .geq false (.t 51) (.k (.v (.int .i64 0))))⟩])
                  (.cond (.t 52)
                   (.reg 18 (some [0, 0, 3, 7, 0, 0, 48, 112, 255, 511, 1023]) [2, 3, 4, 11, 43, 44] [
                     ⟨(some 53), none, (.mv (.t 11))⟩,
                     ⟨(some 54), none, (.mv (.t 13))⟩,
                     ⟨(some 55), none, (.ixL 1 (.t 53) (.t 54))⟩,
                     ⟨(some 56), none, (.ld none (.t 55))⟩,
                     ⟨(some 57), none, (.mv (.t 2))⟩,
                     ⟨(some 58), none, (.mv (.t 12))⟩,
                     ⟨(some 59), none, (.ixL 1 (.t 57) (.t 58))⟩,
                     ⟨(some 60), none, (.ld none (.t 59))⟩,
                     ⟨(some 61), none, (.bin .add false (.t 56) (.t 60))⟩,
                     ⟨(some 62), none, (.ixL 1 (.t 53) (.t 54))⟩,
                     ⟨none, none, (.st 1 (.t 62) (.t 61))⟩])
                   .skip)))))
              (.reg 19 none [2, 3, 4, 11, 43, 44] [
                ⟨(some 63), none, (.bin .add false (.t 44) (.k (.v (.int .i64 1))))⟩,
                ⟨(some 44), none, (.mv (.t 63))⟩])))))))
        (.seq
         (.reg 20 none [6, 7] [
           ⟨(some 64), none, (.mv (.t 11))⟩,
           ⟨(some 6), none, (.mv (.t 64))⟩,
           ⟨(some 7), none, (.mv (.k (.v (.int .i64 0))))⟩])
         .ret)))))))
theorem fn_ref28_Publish : FnIR Try.prog F_ref28_Publish 65 [(0, [2, 3, 4]), (1, [2, 3, 4, 8]), (2, [2, 3, 4, 8, 18]), (3, [6, 7]), (4, [2, 3, 4, 24]), (5, [6, 7]), (6, [2, 3, 4, 25, 26, 27]), (7, [2, 3, 4, 25, 26, 27, 28]), (8, [2, 3, 4, 10, 25, 26, 27]), (9, [2, 3, 4, 25, 26, 27, 36]), (10, [6, 7]), (11, [2, 3, 4, 25, 26, 27]), (12, [2, 3, 4, 11]), (13, [2, 3, 4, 11, 43, 44]), (14, [2, 3, 4, 11, 43, 44, 45]), (15, [2, 3, 4, 11, 12, 43, 44]), (16, [2, 3, 4, 11, 12, 13, 43, 44]), (17, [2, 3, 4, 11, 12, 13, 43, 44, 52]), (18, [2, 3, 4, 11, 43, 44]), (19, [2, 3, 4, 11, 43, 44]), (20, [6, 7])] ir_ref28_Publish [(.tmp 6), (.tmp 7)] :=
  ⟨Try.f13, _, Try.func13, rfl, by kernel_rfl, rfl, by kernel_rfl, by kernel_rfl⟩

/-- dataenclave/equations.Valid -/
def ir_equations_Valid : RC :=
  (.seq
   (.reg 0 none [1, 2] [
     ⟨(some 2), none, (.box (.t 0))⟩,
     ⟨(some 4), none, (.mv (.k (.v (.bool false))))⟩])
   (.seq
    (.reg 1 none [4] [
      ⟨(some 5), none, (.ld none (.t 2))⟩,
      ⟨(some 6), none, (.bin .geq false (.t 5) (.k (.v (.int .i64 1))))⟩,
      ⟨(some 7), none, (.mv (.t 6))⟩,
      ⟨(some 8), (some (7, true)), (.ld none (.t 2))⟩,
      ⟨(some 9), (some (7, true)), (.bin .leq false (.t 8) (.k (.v (.int .i64 48))))⟩,
      ⟨(some 10), none, (.pick (.t 7) (.t 9) (.k (.v (.bool false))))⟩,
      ⟨(some 11), none, (.mv (.t 10))⟩,
      ⟨(some 12), (some (11, true)), (.mv (.t 1))⟩,
      ⟨(some 13), (some (11, true)), (.lenL (.t 12))⟩,
      ⟨(some 14), (some (11, true)), (.bin .leq false (.t 13) (.k (.v (.int .i64 1152))))⟩,
      ⟨(some 15), none, (.pick (.t 11) (.t 14) (.k (.v (.bool false))))⟩,
      ⟨(some 16), none, (.mv (.t 15))⟩,
      ⟨(some 17), (some (16, true)), (.mv (.t 1))⟩,
      ⟨(some 18), (some (16, true)), (.mf F_equations_Valid_1 [(.t 2)])⟩,
      ⟨(some 19), (some (16, true)), (.call (.k (.clo F_slices_ContainsFunc_Equation [])) [(.t 17), (.t 18)])⟩,
      ⟨(some 20), (some (16, true)), (.un .not (.t 19))⟩,
      ⟨(some 21), none, (.pick (.t 16) (.t 20) (.k (.v (.bool false))))⟩,
      ⟨(some 4), none, (.mv (.t 21))⟩])
    .ret))
theorem fn_equations_Valid : FnIR Try.prog F_equations_Valid 22 [(0, [1, 2]), (1, [4])] ir_equations_Valid [(.tmp 4)] :=
  ⟨Try.f14, _, Try.func14, rfl, by kernel_rfl, rfl, by kernel_rfl, by kernel_rfl⟩

/-- dataenclave/dataenclaveref28.Count -/
def ir_ref28_Count : RC :=
  (.seq
   (.reg 0 none [1] [
     ⟨(some 1), none, (.box (.t 0))⟩,
     ⟨(some 2), none, (.mv (.k (.v (.int .i64 0))))⟩])
   (.seq
    (.seq
     (.reg 1 none [1, 8] [
       ⟨(some 6), none, (.ld (some 1) (.t 1))⟩,
       ⟨(some 7), none, (.call (.k (.clo F_ref28_Check [])) [(.t 6)])⟩,
       ⟨(some 8), none, (.bin .neq false (.t 7) (.k (.v (.int .i64 0))))⟩])
     (.cond (.t 8)
      (.seq
       (.reg 2 none [2] [
         ⟨(some 2), none, (.mv (.k (.v (.int .i64 0))))⟩])
       .ret)
      .skip))
    (.seq
     (.reg 3 none [1, 3] [
       ⟨(some 3), none, (.mv (.k (.v (.int .i64 1))))⟩])
     (.seq
      (.seq
       (.reg 4 none [3, 10, 11, 12] [
         ⟨(some 9), none, (.fa 0 (.t 1))⟩,
         ⟨(some 10), none, (.ld none (.t 9))⟩,
         ⟨(some 11), none, (.lenL (.t 10))⟩,
         ⟨(some 12), none, (.mv (.k (.v (.int .i64 0))))⟩])
       (.block 0
        (.loop
         (.seq
          (.reg 5 none [3, 10, 11, 12, 13] [
            ⟨(some 13), none, (.bin .lss false (.t 12) (.t 11))⟩])
          (.seq
           (.cond (.t 13)
            .skip
            (.exit 0))
           (.seq
            (.block 1
             (.seq
              (.reg 6 none [3, 5, 10, 11, 12] [
                ⟨(some 14), none, (.ixL 1 (.t 10) (.t 12))⟩,
                ⟨(some 15), none, (.ld none (.t 14))⟩,
                ⟨(some 5), none, (.mv (.t 15))⟩])
              (.reg 7 none [3, 10, 11, 12] [
                ⟨(some 16), none, (.mv (.t 3))⟩,
                ⟨(some 17), none, (.mv (.t 5))⟩,
                ⟨(some 18), none, (.bin .mul false (.t 16) (.t 17))⟩,
                ⟨(some 3), none, (.mv (.t 18))⟩])))
            (.reg 8 none [3, 10, 11, 12] [
              ⟨(some 19), none, (.bin .add false (.t 12) (.k (.v (.int .i64 1))))⟩,
              ⟨(some 12), none, (.mv (.t 19))⟩])))))))
      (.seq
       (.reg 9 none [2] [
         ⟨(some 20), none, (.mv (.t 3))⟩,
         ⟨(some 2), none, (.mv (.t 20))⟩])
       .ret)))))
theorem fn_ref28_Count : FnIR Try.prog F_ref28_Count 21 [(0, [1]), (1, [1, 8]), (2, [2]), (3, [1, 3]), (4, [3, 10, 11, 12]), (5, [3, 10, 11, 12, 13]), (6, [3, 5, 10, 11, 12]), (7, [3, 10, 11, 12]), (8, [3, 10, 11, 12]), (9, [2])] ir_ref28_Count [(.tmp 2)] :=
  ⟨Try.f15, _, Try.func15, rfl, by kernel_rfl, rfl, by kernel_rfl, by kernel_rfl⟩

/-- dataenclave/dataenclavemade.Space -/
def ir_made_Space : RC :=
  (.seq
   (.reg 0 none [0, 2] [
     ⟨(some 2), none, (.new (.agg [(.v (.slice none 0 0))]))⟩])
   (.seq
    (.reg 1 none [2, 3] [
      ⟨(some 4), none, (.bsl 1 1 [(.k (.v (.int .i64 2)))])⟩,
      ⟨(some 5), none, (.bsl 1 1 [(.k (.v (.int .i64 3)))])⟩,
      ⟨(some 6), none, (.bsl 1 2 [(.k (.v (.int .i64 2))), (.k (.v (.int .i64 2)))])⟩,
      ⟨(some 7), none, (.bsl 1 2 [(.k (.v (.int .i64 2))), (.k (.v (.int .i64 3)))])⟩,
      ⟨(some 8), none, (.bsl 1 1 [(.k (.v (.int .i64 4)))])⟩,
      ⟨(some 9), none, (.bsl 1 3 [(.k (.v (.int .i64 2))), (.k (.v (.int .i64 2))), (.k (.v (.int .i64 2)))])⟩,
      ⟨(some 10), none, (.bsl 1 2 [(.k (.v (.int .i64 3))), (.k (.v (.int .i64 2)))])⟩,
      ⟨(some 11), none, (.bsl 1 1 [(.k (.v (.int .i64 6)))])⟩,
      ⟨(some 12), none, (.bsl 1 2 [(.k (.v (.int .i64 1))), (.k (.v (.int .i64 3)))])⟩,
      ⟨(some 13), none, (.bsl 1 9 [(.t 4), (.t 5), (.t 6), (.t 7), (.t 8), (.t 9), (.t 10), (.t 11), (.t 12)])⟩,
      ⟨(some 14), none, (.mv (.t 0))⟩,
      ⟨(some 15), none, (.call (.k (.clo F_draw_Codes_Next [])) [(.t 14), (.k (.v (.int .i64 9)))])⟩,
      ⟨(some 16), none, (.ixL 1 (.t 13) (.t 15))⟩,
      ⟨(some 17), none, (.ld none (.t 16))⟩,
      ⟨(some 3), none, (.mv (.t 17))⟩])
    (.seq
     (.reg 2 none [2] [
       ⟨(some 18), none, (.bsl 1 0 [])⟩,
       ⟨(some 19), none, (.mv (.t 3))⟩,
       ⟨(some 20), none, (.app 1 8 false (.t 18) (.t 19))⟩,
       ⟨(some 21), none, (.build [(.v (.slice none 0 0))] [((0, 1), (.t 20))])⟩,
       ⟨none, none, (.st 1 (.t 2) (.t 21))⟩])
     .ret)))
theorem fn_made_Space : FnIR Try.prog F_made_Space 22 [(0, [0, 2]), (1, [2, 3]), (2, [2])] ir_made_Space [(.cell 2 (some 1))] :=
  ⟨Try.f16, _, Try.func16, rfl, by kernel_rfl, rfl, by kernel_rfl, by kernel_rfl⟩

/-- dataenclave/dataenclavemade.Releases -/
def ir_made_Releases : RC :=
  (.seq
   (.reg 0 none [0, 2, 3, 5] [
     ⟨(some 5), none, (.box (.t 1))⟩,
     ⟨(some 8), none, (.mv (.k (.v (.slice none 0 0))))⟩])
   (.seq
    (.reg 1 none [0, 2, 3, 5, 9] [
      ⟨(some 9), none, (.mv (.k (.v (.slice none 0 0))))⟩])
    (.seq
     (.seq
      (.reg 2 none [0, 2, 5, 9, 10] [
        ⟨(some 15), none, (.mv (.t 0))⟩,
        ⟨(some 16), none, (.mv (.t 3))⟩,
        ⟨(some 17), none, (.bin .add false (.t 16) (.k (.v (.int .i64 1))))⟩,
        ⟨(some 18), none, (.call (.k (.clo F_draw_Codes_Next [])) [(.t 15), (.t 17)])⟩,
        ⟨(some 10), none, (.mv (.t 18))⟩])
      (.block 0
       (.loop
        (.seq
         (.seq
          (.reg 3 none [0, 2, 5, 9, 10, 20] [
            ⟨(some 19), none, (.mv (.t 10))⟩,
            ⟨(some 20), none, (.bin .gtr false (.t 19) (.k (.v (.int .i64 0))))⟩])
          (.cond (.t 20)
           .skip
           (.exit 0)))
         (.seq
          (.block 1
           (.seq
            (.reg 5 none [0, 2, 5, 9, 10, 11] [
              ⟨(some 23), none, (.mv (.t 0))⟩,
              ⟨(some 24), none, (.ld (some 1) (.t 5))⟩,
              ⟨(some 25), none, (.call (.k (.clo F_made_View [])) [(.t 23), (.t 24)])⟩,
              ⟨(some 11), none, (.new (.agg [(.v (.slice none 0 0))]))⟩,
              ⟨none, none, (.st 1 (.t 11) (.t 25))⟩])
            (.seq
             (.reg 6 none [0, 2, 5, 9, 10, 11, 12] [
               ⟨(some 27), none, (.ld (some 1) (.t 5))⟩,
               ⟨(some 28), none, (.ld (some 1) (.t 11))⟩,
               ⟨(some 29), none, (.mv (.t 2))⟩,
               ⟨(some 30), none, (.call (.k (.clo F_ref28_Publish [])) [(.t 27), (.t 28), (.t 29)])⟩,
               ⟨(some 26), none, (.mv (.t 30))⟩,
               ⟨(some 31), none, (.ex (.t 26) 0)⟩,
               ⟨(some 32), none, (.ex (.t 26) 1)⟩,
               ⟨(some 12), none, (.mv (.t 31))⟩,
               ⟨(some 13), none, (.mv (.t 32))⟩])
             (.seq
              (.seq
               (.reg 7 none [0, 2, 5, 9, 10, 11, 12, 34, 35] [
                 ⟨(some 33), none, (.mv (.t 12))⟩,
                 ⟨(some 34), none, (.lenL (.t 33))⟩,
                 ⟨(some 35), none, (.mv (.k (.v (.int .i64 0))))⟩])
               (.block 2
                (.loop
                 (.seq
                  (.reg 8 none [0, 2, 5, 9, 10, 11, 12, 34, 35, 36] [
                    ⟨(some 36), none, (.bin .lss false (.t 35) (.t 34))⟩])
                  (.seq
                   (.cond (.t 36)
                    .skip
                    (.exit 2))
                   (.seq
                    (.block 3
                     (.seq
                      (.reg 9 none [0, 2, 5, 9, 10, 11, 12, 14, 34, 35] [
                        ⟨(some 37), none, (.mv (.t 35))⟩,
                        ⟨(some 14), none, (.mv (.t 37))⟩])
                      (.seq
                       (.reg 10 none [0, 2, 5, 9, 10, 11, 12, 14, 34, 35, 40] [
                         ⟨(some 38), none, (.mv (.t 0))⟩,
                         ⟨(some 39), none, (.call (.k (.clo F_draw_Codes_Next [])) [(.t 38), (.k (.v (.int .i64 5)))])⟩,
                         ⟨(some 40), none, (.bin .eql false (.t 39) (.k (.v (.int .i64 4))))⟩])
                       (.cond (.t 40)
                        (.reg 11 none [0, 2, 5, 9, 10, 11, 12, 34, 35] [
                          ⟨(some 41), none, (.mv (.t 12))⟩,
                          ⟨(some 42), none, (.mv (.t 14))⟩,
                          ⟨(some 43), none, (.ixL 1 (.t 41) (.t 42))⟩,
                          ⟨none, none, (.st 1 (.t 43) (.k (.v (.int .i64 (-1)))))⟩])
                        .skip))))
                    (.reg 12 none [0, 2, 5, 9, 10, 11, 12, 34, 35] [
                      ⟨(some 44), none, (.bin .add false (.t 35) (.k (.v (.int .i64 1))))⟩,
                      ⟨(some 35), none, (.mv (.t 44))⟩])))))))
              (.reg 13 none [0, 2, 5, 9, 10] [
                ⟨(some 45), none, (.mv (.t 9))⟩,
                ⟨(some 46), none, (.mv (.t 9))⟩,
                ⟨(some 47), none, (.lenL (.t 46))⟩,
                ⟨(some 48), none, (.ld (some 1) (.t 11))⟩,
                ⟨(some 49), none, (.mv (.t 12))⟩,
                ⟨(some 50), none, (.build [(.v (.int .i64 0)), (.v (.slice none 0 0)), (.v (.slice none 0 0))] [((0, 1), (.t 47)), ((1, 1), (.t 48)), ((2, 1), (.t 49))])⟩,
                ⟨(some 51), none, (.bsl 3 1 [(.t 50)])⟩,
                ⟨(some 52), none, (.app 3 56 false (.t 45) (.t 51))⟩,
                ⟨(some 9), none, (.mv (.t 52))⟩])))))
          (.reg 4 none [0, 2, 5, 9, 10] [
            ⟨(some 21), none, (.mv (.t 10))⟩,
            ⟨(some 22), none, (.bin .sub false (.t 21) (.k (.v (.int .i64 1))))⟩,
            ⟨(some 10), none, (.mv (.t 22))⟩]))))))
     (.seq
      (.reg 14 none [8] [
        ⟨(some 53), none, (.mv (.t 9))⟩,
        ⟨(some 8), none, (.mv (.t 53))⟩])
      .ret))))
theorem fn_made_Releases : FnIR Try.prog F_made_Releases 54 [(0, [0, 2, 3, 5]), (1, [0, 2, 3, 5, 9]), (2, [0, 2, 5, 9, 10]), (3, [0, 2, 5, 9, 10, 20]), (4, [0, 2, 5, 9, 10]), (5, [0, 2, 5, 9, 10, 11]), (6, [0, 2, 5, 9, 10, 11, 12]), (7, [0, 2, 5, 9, 10, 11, 12, 34, 35]), (8, [0, 2, 5, 9, 10, 11, 12, 34, 35, 36]), (9, [0, 2, 5, 9, 10, 11, 12, 14, 34, 35]), (10, [0, 2, 5, 9, 10, 11, 12, 14, 34, 35, 40]), (11, [0, 2, 5, 9, 10, 11, 12, 34, 35]), (12, [0, 2, 5, 9, 10, 11, 12, 34, 35]), (13, [0, 2, 5, 9, 10]), (14, [8])] ir_made_Releases [(.tmp 8)] :=
  ⟨Try.f17, _, Try.func17, rfl, by kernel_rfl, rfl, by kernel_rfl, by kernel_rfl⟩

/-- (*dataenclave/dataenclavedraw.Codes).Next -/
def ir_draw_Codes_Next : RC :=
  (.seq
   (.reg 0 none [0, 1] [
     ⟨(some 4), none, (.mv (.k (.v (.int .i64 0))))⟩])
   (.seq
    (.seq
     (.reg 1 (some [0, 1, 3, 7, 15, 31, 63, 7, 135, 391, 903, 1927, 4095, 8191]) [0, 1, 19] [
       ⟨(some 6), none, (.mv (.t 1))⟩,
       ⟨(some 7), none, (.bin .lss false (.t 6) (.k (.v (.int .i64 1))))⟩,
       ⟨(some 8), none, (.mv (.t 7))⟩,
       ⟨(some 9), (some (8, false)), (.mv (.t 0))⟩,
       ⟨(some 10), (some (8, false)), (.nc (.t 9))⟩,
       ⟨(some 11), (some (8, false)), (.fa 1 (.t 10))⟩,
       ⟨(some 12), (some (8, false)), (.ld none (.t 11))⟩,
       ⟨(some 13), (some (8, false)), (.mv (.t 0))⟩,
       ⟨(some 14), (some (8, false)), (.nc (.t 13))⟩,
       ⟨(some 15), (some (8, false)), (.fa 0 (.t 14))⟩,
       ⟨(some 16), (some (8, false)), (.ld none (.t 15))⟩,
       ⟨(some 17), (some (8, false)), (.lenL (.t 16))⟩,
       ⟨(some 18), (some (8, false)), (.bin .geq false (.t 12) (.t 17))⟩,
       ⟨(some 19), none, (.pick (.t 8) (.k (.v (.bool true))) (.t 18))⟩])
     (.cond (.t 19)
      (.seq
       (.reg 2 none [4] [
         ⟨(some 4), none, (.mv (.k (.v (.int .i64 0))))⟩])
       .ret)
      .skip))
    (.seq
     (.reg 3 none [0, 1] [
       ⟨(some 20), none, (.mv (.t 0))⟩,
       ⟨(some 21), none, (.nc (.t 20))⟩,
       ⟨(some 22), none, (.fa 1 (.t 21))⟩,
       ⟨(some 23), none, (.ld none (.t 22))⟩,
       ⟨(some 24), none, (.bin .add false (.t 23) (.k (.v (.int .i64 1))))⟩,
       ⟨(some 25), none, (.nc (.t 20))⟩,
       ⟨(some 26), none, (.fa 1 (.t 25))⟩,
       ⟨none, none, (.st 1 (.t 26) (.t 24))⟩])
     (.seq
      (.reg 4 (some [0, 1, 3, 7, 0, 16, 48, 112, 240, 511, 1023, 2047, 4095]) [0, 1, 5] [
        ⟨(some 27), none, (.mv (.t 0))⟩,
        ⟨(some 28), none, (.nc (.t 27))⟩,
        ⟨(some 29), none, (.fa 0 (.t 28))⟩,
        ⟨(some 30), none, (.ld none (.t 29))⟩,
        ⟨(some 31), none, (.mv (.t 0))⟩,
        ⟨(some 32), none, (.nc (.t 31))⟩,
        ⟨(some 33), none, (.fa 1 (.t 32))⟩,
        ⟨(some 34), none, (.ld none (.t 33))⟩,
        ⟨(some 35), none, (.bin .sub false (.t 34) (.k (.v (.int .i64 1))))⟩,
        ⟨(some 36), none, (.ixL 1 (.t 30) (.t 35))⟩,
        ⟨(some 37), none, (.ld none (.t 36))⟩,
        ⟨(some 38), none, (.cvI .i64 (.t 37))⟩,
        ⟨(some 5), none, (.mv (.t 38))⟩])
      (.seq
       (.seq
        (.reg 5 (some [0, 1, 3, 7, 15, 31, 63, 7, 135, 391, 903, 1927, 4095, 8191]) [0, 1, 5, 52] [
          ⟨(some 39), none, (.mv (.t 1))⟩,
          ⟨(some 40), none, (.bin .gtr false (.t 39) (.k (.v (.int .i64 256))))⟩,
          ⟨(some 41), none, (.mv (.t 40))⟩,
          ⟨(some 42), (some (41, true)), (.mv (.t 0))⟩,
          ⟨(some 43), (some (41, true)), (.nc (.t 42))⟩,
          ⟨(some 44), (some (41, true)), (.fa 1 (.t 43))⟩,
          ⟨(some 45), (some (41, true)), (.ld none (.t 44))⟩,
          ⟨(some 46), (some (41, true)), (.mv (.t 0))⟩,
          ⟨(some 47), (some (41, true)), (.nc (.t 46))⟩,
          ⟨(some 48), (some (41, true)), (.fa 0 (.t 47))⟩,
          ⟨(some 49), (some (41, true)), (.ld none (.t 48))⟩,
          ⟨(some 50), (some (41, true)), (.lenL (.t 49))⟩,
          ⟨(some 51), (some (41, true)), (.bin .lss false (.t 45) (.t 50))⟩,
          ⟨(some 52), none, (.pick (.t 41) (.t 51) (.k (.v (.bool false))))⟩])
        (.cond (.t 52)
         (.seq
          (.reg 6 (some [0, 1, 0, 4, 12, 28, 0, 64, 192, 448, 1020, 2044, 4092, 8191, 16383]) [0, 1, 5] [
            ⟨(some 53), none, (.mv (.t 5))⟩,
            ⟨(some 54), none, (.bin .mul false (.t 53) (.k (.v (.int .i64 256))))⟩,
            ⟨(some 55), none, (.mv (.t 0))⟩,
            ⟨(some 56), none, (.nc (.t 55))⟩,
            ⟨(some 57), none, (.fa 0 (.t 56))⟩,
            ⟨(some 58), none, (.ld none (.t 57))⟩,
            ⟨(some 59), none, (.mv (.t 0))⟩,
            ⟨(some 60), none, (.nc (.t 59))⟩,
            ⟨(some 61), none, (.fa 1 (.t 60))⟩,
            ⟨(some 62), none, (.ld none (.t 61))⟩,
            ⟨(some 63), none, (.ixL 1 (.t 58) (.t 62))⟩,
            ⟨(some 64), none, (.ld none (.t 63))⟩,
            ⟨(some 65), none, (.cvI .i64 (.t 64))⟩,
            ⟨(some 66), none, (.bin .add false (.t 54) (.t 65))⟩,
            ⟨(some 5), none, (.mv (.t 66))⟩])
          (.reg 7 none [1, 5] [
            ⟨(some 67), none, (.mv (.t 0))⟩,
            ⟨(some 68), none, (.nc (.t 67))⟩,
            ⟨(some 69), none, (.fa 1 (.t 68))⟩,
            ⟨(some 70), none, (.ld none (.t 69))⟩,
            ⟨(some 71), none, (.bin .add false (.t 70) (.k (.v (.int .i64 1))))⟩,
            ⟨(some 72), none, (.nc (.t 67))⟩,
            ⟨(some 73), none, (.fa 1 (.t 72))⟩,
            ⟨none, none, (.st 1 (.t 73) (.t 71))⟩]))
         .skip))
       (.seq
        (.reg 8 none [4] [
          ⟨(some 74), none, (.mv (.t 5))⟩,
          ⟨(some 75), none, (.mv (.t 1))⟩,
          ⟨(some 76), none, (.bin .rem false (.t 74) (.t 75))⟩,
          ⟨(some 4), none, (.mv (.t 76))⟩])
        .ret))))))
theorem fn_draw_Codes_Next : FnIR Try.prog F_draw_Codes_Next 77 [(0, [0, 1]), (1, [0, 1, 19]), (2, [4]), (3, [0, 1]), (4, [0, 1, 5]), (5, [0, 1, 5, 52]), (6, [0, 1, 5]), (7, [1, 5]), (8, [4])] ir_draw_Codes_Next [(.tmp 4)] :=
  ⟨Try.f18, _, Try.func18, rfl, by kernel_rfl, rfl, by kernel_rfl, by kernel_rfl⟩

/-- dataenclave/equations.Check -/
def ir_equations_Check : RC :=
  (.seq
   (.reg 0 none [1, 2] [
     ⟨(some 2), none, (.box (.t 0))⟩,
     ⟨(some 4), none, (.mv (.k (.v (.int .i64 0))))⟩])
   (.seq
    (.seq
     (.reg 1 none [1, 2, 5] [
       ⟨(some 10), none, (.ld (some 1) (.t 2))⟩,
       ⟨(some 11), none, (.call (.k (.clo F_cells_Check [])) [(.t 10)])⟩,
       ⟨(some 5), none, (.mv (.t 11))⟩])
     (.seq
      (.reg 2 none [1, 2, 5, 13] [
        ⟨(some 12), none, (.mv (.t 5))⟩,
        ⟨(some 13), none, (.bin .neq false (.t 12) (.k (.v (.int .i64 0))))⟩])
      (.cond (.t 13)
       (.seq
        (.reg 3 none [4] [
          ⟨(some 14), none, (.mv (.t 5))⟩,
          ⟨(some 4), none, (.mv (.t 14))⟩])
        .ret)
       .skip)))
    (.seq
     (.seq
      (.reg 4 none [1, 2, 17] [
        ⟨(some 15), none, (.mv (.t 1))⟩,
        ⟨(some 16), none, (.lenL (.t 15))⟩,
        ⟨(some 17), none, (.bin .gtr false (.t 16) (.k (.v (.int .i64 24))))⟩])
      (.cond (.t 17)
       (.seq
        (.reg 5 none [4] [
          ⟨(some 4), none, (.mv (.k (.v (.int .i64 1))))⟩])
        .ret)
       .skip))
     (.seq
      (.reg 6 none [1, 2, 6] [
        ⟨(some 6), none, (.mv (.k (.v (.int .i64 (-1)))))⟩])
      (.seq
       (.seq
        (.reg 7 none [2, 6, 18, 19, 20] [
          ⟨(some 18), none, (.mv (.t 1))⟩,
          ⟨(some 19), none, (.lenL (.t 18))⟩,
          ⟨(some 20), none, (.mv (.k (.v (.int .i64 0))))⟩])
        (.block 0
         (.loop
          (.seq
           (.reg 8 none [2, 6, 18, 19, 20, 21] [
             ⟨(some 21), none, (.bin .lss false (.t 20) (.t 19))⟩])
           (.seq
            (.cond (.t 21)
             .skip
             (.exit 0))
            (.seq
             (.block 1
              (.seq
               (.reg 9 none [2, 6, 8, 18, 19, 20] [
                 ⟨(some 22), none, (.ixL 3 (.t 18) (.t 20))⟩,
                 ⟨(some 23), none, (.ld (some 3) (.t 22))⟩,
                 ⟨(some 8), none, (.new (.agg [(.v (.int .i64 0)), (.v (.slice none 0 0)), (.v (.slice none 0 0))]))⟩,
                 ⟨none, none, (.st 3 (.t 8) (.t 23))⟩])
               (.seq
                (.seq
                 (.reg 10 none [2, 8, 9, 18, 19, 20] [
                   ⟨(some 24), none, (.ld (some 1) (.t 2))⟩,
                   ⟨(some 25), none, (.ld (some 3) (.t 8))⟩,
                   ⟨(some 26), none, (.mv (.t 6))⟩,
                   ⟨(some 27), none, (.call (.k (.clo F_equations_check [])) [(.t 24), (.t 25), (.t 26)])⟩,
                   ⟨(some 9), none, (.mv (.t 27))⟩])
                 (.seq
                  (.reg 11 none [2, 8, 9, 18, 19, 20, 29] [
                    ⟨(some 28), none, (.mv (.t 9))⟩,
                    ⟨(some 29), none, (.bin .neq false (.t 28) (.k (.v (.int .i64 0))))⟩])
                  (.cond (.t 29)
                   (.seq
                    (.reg 12 none [4] [
                      ⟨(some 30), none, (.mv (.t 9))⟩,
                      ⟨(some 4), none, (.mv (.t 30))⟩])
                    .ret)
                   .skip)))
                (.reg 13 none [2, 6, 18, 19, 20] [
                  ⟨(some 31), none, (.fa 0 (.t 8))⟩,
                  ⟨(some 32), none, (.ld none (.t 31))⟩,
                  ⟨(some 6), none, (.mv (.t 32))⟩]))))
             (.reg 14 none [2, 6, 18, 19, 20] [
               ⟨(some 33), none, (.bin .add false (.t 20) (.k (.v (.int .i64 1))))⟩,
               ⟨(some 20), none, (.mv (.t 33))⟩])))))))
       (.seq
        (.reg 15 none [4] [
          ⟨(some 4), none, (.mv (.k (.v (.int .i64 0))))⟩])
        .ret))))))
theorem fn_equations_Check : FnIR Try.prog F_equations_Check 34 [(0, [1, 2]), (1, [1, 2, 5]), (2, [1, 2, 5, 13]), (3, [4]), (4, [1, 2, 17]), (5, [4]), (6, [1, 2, 6]), (7, [2, 6, 18, 19, 20]), (8, [2, 6, 18, 19, 20, 21]), (9, [2, 6, 8, 18, 19, 20]), (10, [2, 8, 9, 18, 19, 20]), (11, [2, 8, 9, 18, 19, 20, 29]), (12, [4]), (13, [2, 6, 18, 19, 20]), (14, [2, 6, 18, 19, 20]), (15, [4])] ir_equations_Check [(.tmp 4)] :=
  ⟨Try.f19, _, Try.func19, rfl, by kernel_rfl, rfl, by kernel_rfl, by kernel_rfl⟩

/-- dataenclave/equations.told -/
def ir_equations_told : RC :=
  (.seq
   (.reg 0 none [2, 3] [
     ⟨(some 2), none, (.box (.t 0))⟩,
     ⟨(some 3), none, (.box (.t 1))⟩,
     ⟨(some 4), none, (.mv (.k (.v (.slice none 0 0))))⟩])
   (.seq
    (.reg 1 none [2, 3, 5] [
      ⟨(some 5), none, (.mv (.k (.v (.slice none 0 0))))⟩])
    (.seq
     (.seq
      (.reg 2 none [2, 3, 5, 11, 12, 13] [
        ⟨(some 10), none, (.fa 2 (.t 3))⟩,
        ⟨(some 11), none, (.ld none (.t 10))⟩,
        ⟨(some 12), none, (.lenL (.t 11))⟩,
        ⟨(some 13), none, (.mv (.k (.v (.int .i64 0))))⟩])
      (.block 0
       (.loop
        (.seq
         (.reg 3 none [2, 3, 5, 11, 12, 13, 14] [
           ⟨(some 14), none, (.bin .lss false (.t 13) (.t 12))⟩])
         (.seq
          (.cond (.t 14)
           .skip
           (.exit 0))
          (.seq
           (.block 1
            (.seq
             (.reg 4 none [2, 3, 5, 6, 7, 11, 12, 13] [
               ⟨(some 15), none, (.mv (.t 13))⟩,
               ⟨(some 16), none, (.ixL 1 (.t 11) (.t 13))⟩,
               ⟨(some 17), none, (.ld none (.t 16))⟩,
               ⟨(some 6), none, (.mv (.t 15))⟩,
               ⟨(some 7), none, (.mv (.t 17))⟩])
             (.seq
              (.seq
               (.reg 5 none [2, 3, 5, 6, 7, 11, 12, 13, 19] [
                 ⟨(some 18), none, (.mv (.t 7))⟩,
                 ⟨(some 19), none, (.bin .eql false (.t 18) (.k (.v (.int .i64 (-1)))))⟩])
               (.cond (.t 19)
                (.exit 1)
                .skip))
              (.seq
               (.reg 6 none [2, 3, 5, 7, 8, 11, 12, 13] [
                 ⟨(some 21), none, (.ld (some 1) (.t 2))⟩,
                 ⟨(some 22), none, (.fa 1 (.t 3))⟩,
                 ⟨(some 23), none, (.ld (some 1) (.t 22))⟩,
                 ⟨(some 24), none, (.mv (.t 6))⟩,
                 ⟨(some 25), none, (.call (.k (.clo F_cells_Members [])) [(.t 21), (.t 23), (.t 24)])⟩,
                 ⟨(some 20), none, (.mv (.t 25))⟩,
                 ⟨(some 26), none, (.ex (.t 20) 0)⟩,
                 ⟨(some 27), none, (.ex (.t 20) 1)⟩,
                 ⟨(some 8), none, (.mv (.t 26))⟩,
                 ⟨(some 9), none, (.mv (.t 27))⟩])
               (.reg 7 none [2, 3, 5, 11, 12, 13] [
                 ⟨(some 28), none, (.mv (.t 5))⟩,
                 ⟨(some 29), none, (.mv (.t 8))⟩,
                 ⟨(some 30), none, (.mv (.t 7))⟩,
                 ⟨(some 31), none, (.build [(.v (.slice none 0 0)), (.v (.int .i64 0))] [((0, 1), (.t 29)), ((1, 1), (.t 30))])⟩,
                 ⟨(some 32), none, (.bsl 2 1 [(.t 31)])⟩,
                 ⟨(some 33), none, (.app 2 32 false (.t 28) (.t 32))⟩,
                 ⟨(some 5), none, (.mv (.t 33))⟩])))))
           (.reg 8 none [2, 3, 5, 11, 12, 13] [
             ⟨(some 34), none, (.bin .add false (.t 13) (.k (.v (.int .i64 1))))⟩,
             ⟨(some 13), none, (.mv (.t 34))⟩])))))))
     (.seq
      (.reg 9 none [4] [
        ⟨(some 35), none, (.mv (.t 5))⟩,
        ⟨(some 4), none, (.mv (.t 35))⟩])
      .ret))))
theorem fn_equations_told : FnIR Try.prog F_equations_told 36 [(0, [2, 3]), (1, [2, 3, 5]), (2, [2, 3, 5, 11, 12, 13]), (3, [2, 3, 5, 11, 12, 13, 14]), (4, [2, 3, 5, 6, 7, 11, 12, 13]), (5, [2, 3, 5, 6, 7, 11, 12, 13, 19]), (6, [2, 3, 5, 7, 8, 11, 12, 13]), (7, [2, 3, 5, 11, 12, 13]), (8, [2, 3, 5, 11, 12, 13]), (9, [4])] ir_equations_told [(.tmp 4)] :=
  ⟨Try.f20, _, Try.func20, rfl, by kernel_rfl, rfl, by kernel_rfl, by kernel_rfl⟩

/-- slices.ContainsFunc[[]int,int] -/
def ir_slices_ContainsFunc_int : RC :=
  (.seq
   (.reg 0 none [0, 1] [
     ⟨(some 4), none, (.mv (.k (.v (.bool false))))⟩])
   (.seq
    (.reg 1 none [4] [
      ⟨(some 5), none, (.mv (.t 0))⟩,
      ⟨(some 6), none, (.mv (.t 1))⟩,
      ⟨(some 7), none, (.call (.k (.clo F_slices_IndexFunc_int [])) [(.t 5), (.t 6)])⟩,
      ⟨(some 8), none, (.bin .geq false (.t 7) (.k (.v (.int .i64 0))))⟩,
      ⟨(some 4), none, (.mv (.t 8))⟩])
    .ret))
theorem fn_slices_ContainsFunc_int : FnIR Try.prog F_slices_ContainsFunc_int 9 [(0, [0, 1]), (1, [4])] ir_slices_ContainsFunc_int [(.tmp 4)] :=
  ⟨Try.f21, _, Try.func21, rfl, by kernel_rfl, rfl, by kernel_rfl, by kernel_rfl⟩

/-- dataenclave/equations.Agrees$1 -/
def ir_equations_Agrees_1 : RC :=
  (.seq
   (.reg 0 none [0] [
     ⟨(some 2), none, (.mv (.k (.v (.bool false))))⟩])
   (.seq
    (.reg 1 none [2] [
      ⟨(some 3), none, (.mv (.t 0))⟩,
      ⟨(some 4), none, (.call (.k (.clo F_equations_value [])) [(.t 3)])⟩,
      ⟨(some 5), none, (.un .not (.t 4))⟩,
      ⟨(some 2), none, (.mv (.t 5))⟩])
    .ret))
theorem fn_equations_Agrees_1 : FnIR Try.prog F_equations_Agrees_1 6 [(0, [0]), (1, [2])] ir_equations_Agrees_1 [(.tmp 2)] :=
  ⟨Try.f22, _, Try.func22, rfl, by kernel_rfl, rfl, by kernel_rfl, by kernel_rfl⟩

/-- dataenclave/equations.value -/
def ir_equations_value : RC :=
  (.seq
   (.reg 0 none [0] [
     ⟨(some 2), none, (.mv (.k (.v (.bool false))))⟩])
   (.seq
    (.reg 1 none [2] [
      ⟨(some 3), none, (.mv (.t 0))⟩,
      ⟨(some 4), none, (.bin .geq false (.t 3) (.k (.v (.int .i64 0))))⟩,
      ⟨(some 5), none, (.mv (.t 4))⟩,
      ⟨(some 6), (some (5, true)), (.mv (.t 0))⟩,
      ⟨(some 7), (some (5, true)), (.bin .leq false (.t 6) (.k (.v (.int .i64 1000000))))⟩,
      ⟨(some 8), none, (.pick (.t 5) (.t 7) (.k (.v (.bool false))))⟩,
      ⟨(some 2), none, (.mv (.t 8))⟩])
    .ret))
theorem fn_equations_value : FnIR Try.prog F_equations_value 9 [(0, [0]), (1, [2])] ir_equations_value [(.tmp 2)] :=
  ⟨Try.f23, _, Try.func23, rfl, by kernel_rfl, rfl, by kernel_rfl, by kernel_rfl⟩

/-- dataenclave/dataenclaveref28.Ints -/
def ir_ref28_Ints : RC :=
  (.seq
   (.reg 0 none [0, 1] [
     ⟨(some 4), none, (.mv (.k (.v (.bool false))))⟩])
   (.seq
    (.seq
     (.reg 1 none [0, 1, 10] [
       ⟨(some 6), none, (.mv (.t 0))⟩,
       ⟨(some 7), none, (.lenL (.t 6))⟩,
       ⟨(some 8), none, (.mv (.t 1))⟩,
       ⟨(some 9), none, (.lenL (.t 8))⟩,
       ⟨(some 10), none, (.bin .neq false (.t 7) (.t 9))⟩])
     (.cond (.t 10)
      (.seq
       (.reg 2 none [4] [
         ⟨(some 4), none, (.mv (.k (.v (.bool false))))⟩])
       .ret)
      .skip))
    (.seq
     (.seq
      (.reg 3 none [0, 1, 12, 13] [
        ⟨(some 11), none, (.mv (.t 0))⟩,
        ⟨(some 12), none, (.lenL (.t 11))⟩,
        ⟨(some 13), none, (.mv (.k (.v (.int .i64 0))))⟩])
      (.block 0
       (.loop
        (.seq
         (.reg 4 none [0, 1, 12, 13, 14] [
           ⟨(some 14), none, (.bin .lss false (.t 13) (.t 12))⟩])
         (.seq
          (.cond (.t 14)
           .skip
           (.exit 0))
          (.seq
           (.block 1
            (.seq
             (.reg 5 none [0, 1, 5, 12, 13] [
               ⟨(some 15), none, (.mv (.t 13))⟩,
               ⟨(some 5), none, (.mv (.t 15))⟩])
             (.seq
              (.reg 6 (some [0, 0, 3, 7, 0, 0, 48, 112, 255]) [0, 1, 12, 13, 24] [
                ⟨(some 16), none, (.mv (.t 0))⟩,
                ⟨(some 17), none, (.mv (.t 5))⟩,
                ⟨(some 18), none, (.ixL 1 (.t 16) (.t 17))⟩,
                ⟨(some 19), none, (.ld none (.t 18))⟩,
                ⟨(some 20), none, (.mv (.t 1))⟩,
                ⟨(some 21), none, (.mv (.t 5))⟩,
                ⟨(some 22), none, (.ixL 1 (.t 20) (.t 21))⟩,
                ⟨(some 23), none, (.ld none (.t 22))⟩,
                ⟨(some 24), none, (.bin .neq false (.t 19) (.t 23))⟩])
              (.cond (.t 24)
               (.seq
                (.reg 7 none [4] [
                  ⟨(some 4), none, (.mv (.k (.v (.bool false))))⟩])
                .ret)
               .skip))))
           (.reg 8 none [0, 1, 12, 13] [
             ⟨(some 25), none, (.bin .add false (.t 13) (.k (.v (.int .i64 1))))⟩,
             ⟨(some 13), none, (.mv (.t 25))⟩])))))))
     (.seq
      (.reg 9 none [4] [
        ⟨(some 4), none, (.mv (.k (.v (.bool true))))⟩])
      .ret))))
theorem fn_ref28_Ints : FnIR Try.prog F_ref28_Ints 26 [(0, [0, 1]), (1, [0, 1, 10]), (2, [4]), (3, [0, 1, 12, 13]), (4, [0, 1, 12, 13, 14]), (5, [0, 1, 5, 12, 13]), (6, [0, 1, 12, 13, 24]), (7, [4]), (8, [0, 1, 12, 13]), (9, [4])] ir_ref28_Ints [(.tmp 4)] :=
  ⟨Try.f24, _, Try.func24, rfl, by kernel_rfl, rfl, by kernel_rfl, by kernel_rfl⟩

/-- dataenclave/dataenclaveref28.View -/
def ir_ref28_View : RC :=
  (.seq
   (.reg 0 none [2, 3] [
     ⟨(some 2), none, (.box (.t 0))⟩,
     ⟨(some 3), none, (.box (.t 1))⟩,
     ⟨(some 4), none, (.mv (.k (.v (.int .i64 0))))⟩])
   (.seq
    (.seq
     (.reg 1 none [2, 3, 5] [
       ⟨(some 11), none, (.ld (some 1) (.t 2))⟩,
       ⟨(some 12), none, (.call (.k (.clo F_ref28_Check [])) [(.t 11)])⟩,
       ⟨(some 5), none, (.mv (.t 12))⟩])
     (.seq
      (.reg 2 none [2, 3, 5, 14] [
        ⟨(some 13), none, (.mv (.t 5))⟩,
        ⟨(some 14), none, (.bin .neq false (.t 13) (.k (.v (.int .i64 0))))⟩])
      (.cond (.t 14)
       (.seq
        (.reg 3 none [4] [
          ⟨(some 15), none, (.mv (.t 5))⟩,
          ⟨(some 4), none, (.mv (.t 15))⟩])
        .ret)
       .skip)))
    (.seq
     (.seq
      (.reg 4 none [2, 3, 22] [
        ⟨(some 16), none, (.fa 0 (.t 3))⟩,
        ⟨(some 17), none, (.ld none (.t 16))⟩,
        ⟨(some 18), none, (.lenL (.t 17))⟩,
        ⟨(some 19), none, (.fa 0 (.t 2))⟩,
        ⟨(some 20), none, (.ld none (.t 19))⟩,
        ⟨(some 21), none, (.lenL (.t 20))⟩,
        ⟨(some 22), none, (.bin .neq false (.t 18) (.t 21))⟩])
      (.cond (.t 22)
       (.seq
        (.reg 5 none [4] [
          ⟨(some 4), none, (.mv (.k (.v (.int .i64 55))))⟩])
        .ret)
       .skip))
     (.seq
      (.seq
       (.reg 6 none [2, 24, 25, 26] [
         ⟨(some 23), none, (.fa 0 (.t 3))⟩,
         ⟨(some 24), none, (.ld none (.t 23))⟩,
         ⟨(some 25), none, (.lenL (.t 24))⟩,
         ⟨(some 26), none, (.mv (.k (.v (.int .i64 0))))⟩])
       (.block 0
        (.loop
         (.seq
          (.reg 7 none [2, 24, 25, 26, 27] [
            ⟨(some 27), none, (.bin .lss false (.t 26) (.t 25))⟩])
          (.seq
           (.cond (.t 27)
            .skip
            (.exit 0))
           (.seq
            (.block 1
             (.seq
              (.reg 8 none [2, 6, 7, 24, 25, 26] [
                ⟨(some 28), none, (.mv (.t 26))⟩,
                ⟨(some 29), none, (.ixL 1 (.t 24) (.t 26))⟩,
                ⟨(some 30), none, (.ld none (.t 29))⟩,
                ⟨(some 6), none, (.mv (.t 28))⟩,
                ⟨(some 7), none, (.mv (.t 30))⟩])
              (.seq
               (.seq
                (.reg 9 none [2, 7, 24, 25, 26, 38] [
                  ⟨(some 31), none, (.mv (.t 7))⟩,
                  ⟨(some 32), none, (.lenL (.t 31))⟩,
                  ⟨(some 33), none, (.fa 0 (.t 2))⟩,
                  ⟨(some 34), none, (.ld none (.t 33))⟩,
                  ⟨(some 35), none, (.mv (.t 6))⟩,
                  ⟨(some 36), none, (.ixL 1 (.t 34) (.t 35))⟩,
                  ⟨(some 37), none, (.ld none (.t 36))⟩,
                  ⟨(some 38), none, (.bin .neq false (.t 32) (.t 37))⟩])
                (.cond (.t 38)
                 (.seq
                  (.reg 10 none [4] [
                    ⟨(some 4), none, (.mv (.k (.v (.int .i64 55))))⟩])
                  .ret)
                 .skip))
               (.seq
                (.reg 11 none [2, 7, 8, 24, 25, 26] [
                  ⟨(some 8), none, (.mv (.k (.v (.int .i64 0))))⟩])
                (.seq
                 (.seq
                  (.reg 12 none [2, 8, 24, 25, 26, 39, 40, 41] [
                    ⟨(some 39), none, (.mv (.t 7))⟩,
                    ⟨(some 40), none, (.lenL (.t 39))⟩,
                    ⟨(some 41), none, (.mv (.k (.v (.int .i64 0))))⟩])
                  (.block 2
                   (.loop
                    (.seq
                     (.reg 13 none [2, 8, 24, 25, 26, 39, 40, 41, 42] [
                       ⟨(some 42), none, (.bin .lss false (.t 41) (.t 40))⟩])
                     (.seq
                      (.cond (.t 42)
                       .skip
                       (.exit 2))
                      (.seq
                       (.block 3
                        (.seq
                         (.reg 14 none [2, 8, 10, 24, 25, 26, 39, 40, 41] [
                           ⟨(some 43), none, (.ixL 1 (.t 39) (.t 41))⟩,
                           ⟨(some 44), none, (.ld none (.t 43))⟩,
                           ⟨(some 10), none, (.mv (.t 44))⟩])
                         (.seq
                          (.seq
                           (.reg 15 none [2, 8, 10, 24, 25, 26, 39, 40, 41, 51] [
                             ⟨(some 45), none, (.mv (.t 10))⟩,
                             ⟨(some 46), none, (.bin .lss false (.t 45) (.k (.v (.int .i64 (-1)))))⟩,
                             ⟨(some 47), none, (.mv (.t 46))⟩,
                             ⟨(some 48), (some (47, false)), (.mv (.t 10))⟩,
                             ⟨(some 49), (some (47, false)), (.mv (.t 8))⟩,
                             ⟨(some 50), (some (47, false)), (.bin .gtr false (.t 48) (.t 49))⟩,
                             ⟨(some 51), none, (.pick (.t 47) (.k (.v (.bool true))) (.t 50))⟩])
                           (.cond (.t 51)
                            (.seq
                             (.reg 16 none [4] [
                               ⟨(some 4), none, (.mv (.k (.v (.int .i64 55))))⟩])
                             .ret)
                            .skip))
                          (.seq
                           (.reg 17 none [2, 8, 24, 25, 26, 39, 40, 41, 54] [
                             ⟨(some 52), none, (.mv (.t 10))⟩,
                             ⟨(some 53), none, (.mv (.t 8))⟩,
                             ⟨(some 54), none, (.bin .eql false (.t 52) (.t 53))⟩])
                           (.cond (.t 54)
                            (.reg 18 none [2, 8, 24, 25, 26, 39, 40, 41] [
                              ⟨(some 55), none, (.mv (.t 8))⟩,
                              ⟨(some 56), none, (.bin .add false (.t 55) (.k (.v (.int .i64 1))))⟩,
                              ⟨(some 8), none, (.mv (.t 56))⟩])
                            .skip)))))
                       (.reg 19 none [2, 8, 24, 25, 26, 39, 40, 41] [
                         ⟨(some 57), none, (.bin .add false (.t 41) (.k (.v (.int .i64 1))))⟩,
                         ⟨(some 41), none, (.mv (.t 57))⟩])))))))
                 (.seq
                  (.reg 20 none [2, 24, 25, 26, 59] [
                    ⟨(some 58), none, (.mv (.t 8))⟩,
                    ⟨(some 59), none, (.bin .eql false (.t 58) (.k (.v (.int .i64 0))))⟩])
                  (.cond (.t 59)
                   (.seq
                    (.reg 21 none [4] [
                      ⟨(some 4), none, (.mv (.k (.v (.int .i64 55))))⟩])
                    .ret)
                   .skip)))))))
            (.reg 22 none [2, 24, 25, 26] [
              ⟨(some 60), none, (.bin .add false (.t 26) (.k (.v (.int .i64 1))))⟩,
              ⟨(some 26), none, (.mv (.t 60))⟩])))))))
      (.seq
       (.reg 23 none [4] [
         ⟨(some 4), none, (.mv (.k (.v (.int .i64 0))))⟩])
       .ret)))))
theorem fn_ref28_View : FnIR Try.prog F_ref28_View 61 [(0, [2, 3]), (1, [2, 3, 5]), (2, [2, 3, 5, 14]), (3, [4]), (4, [2, 3, 22]), (5, [4]), (6, [2, 24, 25, 26]), (7, [2, 24, 25, 26, 27]), (8, [2, 6, 7, 24, 25, 26]), (9, [2, 7, 24, 25, 26, 38]), (10, [4]), (11, [2, 7, 8, 24, 25, 26]), (12, [2, 8, 24, 25, 26, 39, 40, 41]), (13, [2, 8, 24, 25, 26, 39, 40, 41, 42]), (14, [2, 8, 10, 24, 25, 26, 39, 40, 41]), (15, [2, 8, 10, 24, 25, 26, 39, 40, 41, 51]), (16, [4]), (17, [2, 8, 24, 25, 26, 39, 40, 41, 54]), (18, [2, 8, 24, 25, 26, 39, 40, 41]), (19, [2, 8, 24, 25, 26, 39, 40, 41]), (20, [2, 24, 25, 26, 59]), (21, [4]), (22, [2, 24, 25, 26]), (23, [4])] ir_ref28_View [(.tmp 4)] :=
  ⟨Try.f25, _, Try.func25, rfl, by kernel_rfl, rfl, by kernel_rfl, by kernel_rfl⟩

/-- dataenclave/dataenclaveref28.Published -/
def ir_ref28_Published : RC :=
  (.seq
   (.reg 0 none [2, 3] [
     ⟨(some 2), none, (.box (.t 0))⟩,
     ⟨(some 3), none, (.box (.t 1))⟩,
     ⟨(some 4), none, (.mv (.k (.v (.int .i64 0))))⟩])
   (.seq
    (.seq
     (.reg 1 none [3, 11] [
       ⟨(some 8), none, (.ld (some 1) (.t 2))⟩,
       ⟨(some 9), none, (.ld (some 1) (.t 3))⟩,
       ⟨(some 10), none, (.call (.k (.clo F_ref28_View [])) [(.t 8), (.t 9)])⟩,
       ⟨(some 11), none, (.bin .neq false (.t 10) (.k (.v (.int .i64 0))))⟩])
     (.cond (.t 11)
      (.seq
       (.reg 2 none [4] [
         ⟨(some 4), none, (.mv (.k (.v (.int .i64 0))))⟩])
       .ret)
      .skip))
    (.seq
     (.reg 3 none [3, 5] [
       ⟨(some 5), none, (.mv (.k (.v (.int .i64 1))))⟩])
     (.seq
      (.seq
       (.reg 4 none [5, 13, 14, 15] [
         ⟨(some 12), none, (.fa 0 (.t 3))⟩,
         ⟨(some 13), none, (.ld none (.t 12))⟩,
         ⟨(some 14), none, (.lenL (.t 13))⟩,
         ⟨(some 15), none, (.mv (.k (.v (.int .i64 0))))⟩])
       (.block 0
        (.loop
         (.seq
          (.reg 5 none [5, 13, 14, 15, 16] [
            ⟨(some 16), none, (.bin .lss false (.t 15) (.t 14))⟩])
          (.seq
           (.cond (.t 16)
            .skip
            (.exit 0))
           (.seq
            (.block 1
             (.seq
              (.reg 6 none [5, 7, 13, 14, 15] [
                ⟨(some 17), none, (.ixL 1 (.t 13) (.t 15))⟩,
                ⟨(some 18), none, (.ld none (.t 17))⟩,
                ⟨(some 7), none, (.mv (.t 18))⟩])
              (.reg 7 none [5, 13, 14, 15] [
                ⟨(some 19), none, (.mv (.t 5))⟩,
                ⟨(some 20), none, (.mv (.t 7))⟩,
                ⟨(some 21), none, (.call (.k (.clo F_ref28_Groups [])) [(.t 20)])⟩,
                ⟨(some 22), none, (.bin .mul false (.t 19) (.t 21))⟩,
                ⟨(some 5), none, (.mv (.t 22))⟩])))
            (.reg 8 none [5, 13, 14, 15] [
              ⟨(some 23), none, (.bin .add false (.t 15) (.k (.v (.int .i64 1))))⟩,
              ⟨(some 15), none, (.mv (.t 23))⟩])))))))
      (.seq
       (.reg 9 none [4] [
         ⟨(some 24), none, (.mv (.t 5))⟩,
         ⟨(some 4), none, (.mv (.t 24))⟩])
       .ret)))))
theorem fn_ref28_Published : FnIR Try.prog F_ref28_Published 25 [(0, [2, 3]), (1, [3, 11]), (2, [4]), (3, [3, 5]), (4, [5, 13, 14, 15]), (5, [5, 13, 14, 15, 16]), (6, [5, 7, 13, 14, 15]), (7, [5, 13, 14, 15]), (8, [5, 13, 14, 15]), (9, [4])] ir_ref28_Published [(.tmp 4)] :=
  ⟨Try.f26, _, Try.func26, rfl, by kernel_rfl, rfl, by kernel_rfl, by kernel_rfl⟩

/-- dataenclave/dataenclaveref28.Of -/
def ir_ref28_Of : RC :=
  (.seq
   (.reg 0 none [2, 3, 4] [
     ⟨(some 3), none, (.box (.t 0))⟩,
     ⟨(some 4), none, (.box (.t 1))⟩,
     ⟨(some 6), none, (.mv (.k (.v (.int .i64 0))))⟩])
   (.seq
    (.reg 1 none [4, 7] [
      ⟨(some 14), none, (.ld (some 1) (.t 3))⟩,
      ⟨(some 15), none, (.mv (.t 2))⟩,
      ⟨(some 16), none, (.call (.k (.clo F_ref28_At [])) [(.t 14), (.t 15)])⟩,
      ⟨(some 13), none, (.mv (.t 16))⟩,
      ⟨(some 17), none, (.ex (.t 13) 0)⟩,
      ⟨(some 18), none, (.ex (.t 13) 1)⟩,
      ⟨(some 7), none, (.mv (.t 17))⟩,
      ⟨(some 8), none, (.mv (.t 18))⟩])
    (.seq
     (.reg 2 none [4, 7, 9] [
       ⟨(some 9), none, (.mv (.k (.v (.int .i64 0))))⟩])
     (.seq
      (.seq
       (.reg 3 none [4, 9, 19, 20, 21] [
         ⟨(some 19), none, (.mv (.t 7))⟩,
         ⟨(some 20), none, (.lenL (.t 19))⟩,
         ⟨(some 21), none, (.mv (.k (.v (.int .i64 0))))⟩])
       (.block 0
        (.loop
         (.seq
          (.reg 4 none [4, 9, 19, 20, 21, 22] [
            ⟨(some 22), none, (.bin .lss false (.t 21) (.t 20))⟩])
          (.seq
           (.cond (.t 22)
            .skip
            (.exit 0))
           (.seq
            (.block 1
             (.seq
              (.reg 5 none [4, 9, 10, 11, 19, 20, 21] [
                ⟨(some 23), none, (.mv (.t 21))⟩,
                ⟨(some 24), none, (.ixL 1 (.t 19) (.t 21))⟩,
                ⟨(some 25), none, (.ld none (.t 24))⟩,
                ⟨(some 10), none, (.mv (.t 23))⟩,
                ⟨(some 11), none, (.mv (.t 25))⟩])
              (.seq
               (.reg 6 none [4, 9, 10, 12, 19, 20, 21] [
                 ⟨(some 26), none, (.fa 0 (.t 4))⟩,
                 ⟨(some 27), none, (.ld none (.t 26))⟩,
                 ⟨(some 28), none, (.mv (.t 10))⟩,
                 ⟨(some 29), none, (.ixL 1 (.t 27) (.t 28))⟩,
                 ⟨(some 30), none, (.ld none (.t 29))⟩,
                 ⟨(some 31), none, (.mv (.t 11))⟩,
                 ⟨(some 32), none, (.ixL 1 (.t 30) (.t 31))⟩,
                 ⟨(some 33), none, (.ld none (.t 32))⟩,
                 ⟨(some 12), none, (.mv (.t 33))⟩])
               (.seq
                (.seq
                 (.reg 7 none [4, 9, 10, 12, 19, 20, 21, 35] [
                   ⟨(some 34), none, (.mv (.t 12))⟩,
                   ⟨(some 35), none, (.bin .lss false (.t 34) (.k (.v (.int .i64 0))))⟩])
                 (.cond (.t 35)
                  (.seq
                   (.reg 8 none [6] [
                     ⟨(some 6), none, (.mv (.k (.v (.int .i64 (-1)))))⟩])
                   .ret)
                  .skip))
                (.reg 9 none [4, 9, 19, 20, 21] [
                  ⟨(some 36), none, (.mv (.t 9))⟩,
                  ⟨(some 37), none, (.fa 0 (.t 4))⟩,
                  ⟨(some 38), none, (.ld none (.t 37))⟩,
                  ⟨(some 39), none, (.mv (.t 10))⟩,
                  ⟨(some 40), none, (.ixL 1 (.t 38) (.t 39))⟩,
                  ⟨(some 41), none, (.ld none (.t 40))⟩,
                  ⟨(some 42), none, (.call (.k (.clo F_ref28_Groups [])) [(.t 41)])⟩,
                  ⟨(some 43), none, (.bin .mul false (.t 36) (.t 42))⟩,
                  ⟨(some 44), none, (.mv (.t 12))⟩,
                  ⟨(some 45), none, (.bin .add false (.t 43) (.t 44))⟩,
                  ⟨(some 9), none, (.mv (.t 45))⟩])))))
            (.reg 10 none [4, 9, 19, 20, 21] [
              ⟨(some 46), none, (.bin .add false (.t 21) (.k (.v (.int .i64 1))))⟩,
              ⟨(some 21), none, (.mv (.t 46))⟩])))))))
      (.seq
       (.reg 11 none [6] [
         ⟨(some 47), none, (.mv (.t 9))⟩,
         ⟨(some 6), none, (.mv (.t 47))⟩])
       .ret)))))
theorem fn_ref28_Of : FnIR Try.prog F_ref28_Of 48 [(0, [2, 3, 4]), (1, [4, 7]), (2, [4, 7, 9]), (3, [4, 9, 19, 20, 21]), (4, [4, 9, 19, 20, 21, 22]), (5, [4, 9, 10, 11, 19, 20, 21]), (6, [4, 9, 10, 12, 19, 20, 21]), (7, [4, 9, 10, 12, 19, 20, 21, 35]), (8, [6]), (9, [4, 9, 19, 20, 21]), (10, [4, 9, 19, 20, 21]), (11, [6])] ir_ref28_Of [(.tmp 6)] :=
  ⟨Try.f27, _, Try.func27, rfl, by kernel_rfl, rfl, by kernel_rfl, by kernel_rfl⟩

/-- slices.ContainsFunc[[]dataenclave/api.Equation,dataenclave/api.Equation] -/
def ir_slices_ContainsFunc_Equation : RC :=
  (.seq
   (.reg 0 none [0, 1] [
     ⟨(some 4), none, (.mv (.k (.v (.bool false))))⟩])
   (.seq
    (.reg 1 none [4] [
      ⟨(some 5), none, (.mv (.t 0))⟩,
      ⟨(some 6), none, (.mv (.t 1))⟩,
      ⟨(some 7), none, (.call (.k (.clo F_slices_IndexFunc_Equation [])) [(.t 5), (.t 6)])⟩,
      ⟨(some 8), none, (.bin .geq false (.t 7) (.k (.v (.int .i64 0))))⟩,
      ⟨(some 4), none, (.mv (.t 8))⟩])
    .ret))
theorem fn_slices_ContainsFunc_Equation : FnIR Try.prog F_slices_ContainsFunc_Equation 9 [(0, [0, 1]), (1, [4])] ir_slices_ContainsFunc_Equation [(.tmp 4)] :=
  ⟨Try.f28, _, Try.func28, rfl, by kernel_rfl, rfl, by kernel_rfl, by kernel_rfl⟩

/-- dataenclave/equations.Valid$1 -/
def ir_equations_Valid_1 : RC :=
  (.seq
   (.reg 0 none [1, 2] [
     ⟨(some 2), none, (.box (.t 0))⟩,
     ⟨(some 3), none, (.mv (.k (.v (.bool false))))⟩])
   (.seq
    (.reg 1 none [3] [
      ⟨(some 4), none, (.ld none (.t 1))⟩,
      ⟨(some 5), none, (.ld (some 2) (.t 2))⟩,
      ⟨(some 6), none, (.call (.k (.clo F_equations_right [])) [(.t 4), (.t 5)])⟩,
      ⟨(some 7), none, (.un .not (.t 6))⟩,
      ⟨(some 3), none, (.mv (.t 7))⟩])
    .ret))
theorem fn_equations_Valid_1 : FnIR Try.prog F_equations_Valid_1 8 [(0, [1, 2]), (1, [3])] ir_equations_Valid_1 [(.tmp 3)] :=
  ⟨Try.f29, _, Try.func29, rfl, by kernel_rfl, rfl, by kernel_rfl, by kernel_rfl⟩

/-- dataenclave/equations.right -/
def ir_equations_right : RC :=
  (.seq
   (.reg 0 none [0, 3] [
     ⟨(some 3), none, (.box (.t 1))⟩,
     ⟨(some 4), none, (.mv (.k (.v (.bool false))))⟩])
   (.seq
    (.seq
     (.reg 1 none [0, 3, 17] [
       ⟨(some 8), none, (.fa 0 (.t 3))⟩,
       ⟨(some 9), none, (.ld none (.t 8))⟩,
       ⟨(some 10), none, (.lenL (.t 9))⟩,
       ⟨(some 11), none, (.bin .eql false (.t 10) (.k (.v (.int .i64 0))))⟩,
       ⟨(some 12), none, (.mv (.t 11))⟩,
       ⟨(some 13), (some (12, false)), (.fa 1 (.t 3))⟩,
       ⟨(some 14), (some (12, false)), (.ld none (.t 13))⟩,
       ⟨(some 15), (some (12, false)), (.call (.k (.clo F_equations_value [])) [(.t 14)])⟩,
       ⟨(some 16), (some (12, false)), (.un .not (.t 15))⟩,
       ⟨(some 17), none, (.pick (.t 12) (.k (.v (.bool true))) (.t 16))⟩])
     (.cond (.t 17)
      (.seq
       (.reg 2 none [4] [
         ⟨(some 4), none, (.mv (.k (.v (.bool false))))⟩])
       .ret)
      .skip))
    (.seq
     (.reg 3 none [0, 3, 5] [
       ⟨(some 5), none, (.mv (.k (.v (.int .i64 (-1)))))⟩])
     (.seq
      (.seq
       (.reg 4 none [0, 5, 19, 20, 21] [
         ⟨(some 18), none, (.fa 0 (.t 3))⟩,
         ⟨(some 19), none, (.ld none (.t 18))⟩,
         ⟨(some 20), none, (.lenL (.t 19))⟩,
         ⟨(some 21), none, (.mv (.k (.v (.int .i64 0))))⟩])
       (.block 0
        (.loop
         (.seq
          (.reg 5 none [0, 5, 19, 20, 21, 22] [
            ⟨(some 22), none, (.bin .lss false (.t 21) (.t 20))⟩])
          (.seq
           (.cond (.t 22)
            .skip
            (.exit 0))
           (.seq
            (.block 1
             (.seq
              (.reg 6 none [0, 5, 7, 19, 20, 21] [
                ⟨(some 23), none, (.ixL 1 (.t 19) (.t 21))⟩,
                ⟨(some 24), none, (.ld none (.t 23))⟩,
                ⟨(some 7), none, (.mv (.t 24))⟩])
              (.seq
               (.seq
                (.reg 7 none [0, 7, 19, 20, 21, 32] [
                  ⟨(some 25), none, (.mv (.t 7))⟩,
                  ⟨(some 26), none, (.mv (.t 5))⟩,
                  ⟨(some 27), none, (.bin .leq false (.t 25) (.t 26))⟩,
                  ⟨(some 28), none, (.mv (.t 27))⟩,
                  ⟨(some 29), (some (28, false)), (.mv (.t 7))⟩,
                  ⟨(some 30), (some (28, false)), (.mv (.t 0))⟩,
                  ⟨(some 31), (some (28, false)), (.bin .geq false (.t 29) (.t 30))⟩,
                  ⟨(some 32), none, (.pick (.t 28) (.k (.v (.bool true))) (.t 31))⟩])
                (.cond (.t 32)
                 (.seq
                  (.reg 8 none [4] [
                    ⟨(some 4), none, (.mv (.k (.v (.bool false))))⟩])
                  .ret)
                 .skip))
               (.reg 9 none [0, 5, 19, 20, 21] [
                 ⟨(some 33), none, (.mv (.t 7))⟩,
                 ⟨(some 5), none, (.mv (.t 33))⟩]))))
            (.reg 10 none [0, 5, 19, 20, 21] [
              ⟨(some 34), none, (.bin .add false (.t 21) (.k (.v (.int .i64 1))))⟩,
              ⟨(some 21), none, (.mv (.t 34))⟩])))))))
      (.seq
       (.reg 11 none [4] [
         ⟨(some 4), none, (.mv (.k (.v (.bool true))))⟩])
       .ret)))))
theorem fn_equations_right : FnIR Try.prog F_equations_right 35 [(0, [0, 3]), (1, [0, 3, 17]), (2, [4]), (3, [0, 3, 5]), (4, [0, 5, 19, 20, 21]), (5, [0, 5, 19, 20, 21, 22]), (6, [0, 5, 7, 19, 20, 21]), (7, [0, 7, 19, 20, 21, 32]), (8, [4]), (9, [0, 5, 19, 20, 21]), (10, [0, 5, 19, 20, 21]), (11, [4])] ir_equations_right [(.tmp 4)] :=
  ⟨Try.f30, _, Try.func30, rfl, by kernel_rfl, rfl, by kernel_rfl, by kernel_rfl⟩

/-- dataenclave/dataenclaveref28.Check -/
def ir_ref28_Check : RC :=
  (.seq
   (.reg 0 none [1] [
     ⟨(some 1), none, (.box (.t 0))⟩,
     ⟨(some 2), none, (.mv (.k (.v (.int .i64 0))))⟩])
   (.seq
    (.seq
     (.reg 1 none [1, 15] [
       ⟨(some 6), none, (.fa 0 (.t 1))⟩,
       ⟨(some 7), none, (.ld none (.t 6))⟩,
       ⟨(some 8), none, (.lenL (.t 7))⟩,
       ⟨(some 9), none, (.bin .lss false (.t 8) (.k (.v (.int .i64 1))))⟩,
       ⟨(some 10), none, (.mv (.t 9))⟩,
       ⟨(some 11), (some (10, false)), (.fa 0 (.t 1))⟩,
       ⟨(some 12), (some (10, false)), (.ld none (.t 11))⟩,
       ⟨(some 13), (some (10, false)), (.lenL (.t 12))⟩,
       ⟨(some 14), (some (10, false)), (.bin .gtr false (.t 13) (.k (.v (.int .i64 4))))⟩,
       ⟨(some 15), none, (.pick (.t 10) (.k (.v (.bool true))) (.t 14))⟩])
     (.cond (.t 15)
      (.seq
       (.reg 2 none [2] [
         ⟨(some 2), none, (.mv (.k (.v (.int .i64 55))))⟩])
       .ret)
      .skip))
    (.seq
     (.reg 3 none [1, 3] [
       ⟨(some 3), none, (.mv (.k (.v (.int .i64 1))))⟩])
     (.seq
      (.seq
       (.reg 4 none [3, 17, 18, 19] [
         ⟨(some 16), none, (.fa 0 (.t 1))⟩,
         ⟨(some 17), none, (.ld none (.t 16))⟩,
         ⟨(some 18), none, (.lenL (.t 17))⟩,
         ⟨(some 19), none, (.mv (.k (.v (.int .i64 0))))⟩])
       (.block 0
        (.loop
         (.seq
          (.reg 5 none [3, 17, 18, 19, 20] [
            ⟨(some 20), none, (.bin .lss false (.t 19) (.t 18))⟩])
          (.seq
           (.cond (.t 20)
            .skip
            (.exit 0))
           (.seq
            (.block 1
             (.seq
              (.reg 6 none [3, 5, 17, 18, 19] [
                ⟨(some 21), none, (.ixL 1 (.t 17) (.t 19))⟩,
                ⟨(some 22), none, (.ld none (.t 21))⟩,
                ⟨(some 5), none, (.mv (.t 22))⟩])
              (.seq
               (.seq
                (.reg 7 none [3, 5, 17, 18, 19, 28] [
                  ⟨(some 23), none, (.mv (.t 5))⟩,
                  ⟨(some 24), none, (.bin .lss false (.t 23) (.k (.v (.int .i64 1))))⟩,
                  ⟨(some 25), none, (.mv (.t 24))⟩,
                  ⟨(some 26), (some (25, false)), (.mv (.t 5))⟩,
                  ⟨(some 27), (some (25, false)), (.bin .gtr false (.t 26) (.k (.v (.int .i64 8))))⟩,
                  ⟨(some 28), none, (.pick (.t 25) (.k (.v (.bool true))) (.t 27))⟩])
                (.cond (.t 28)
                 (.seq
                  (.reg 8 none [2] [
                    ⟨(some 2), none, (.mv (.k (.v (.int .i64 55))))⟩])
                  .ret)
                 .skip))
               (.reg 9 none [3, 17, 18, 19] [
                 ⟨(some 29), none, (.mv (.t 3))⟩,
                 ⟨(some 30), none, (.mv (.t 5))⟩,
                 ⟨(some 31), none, (.bin .mul false (.t 29) (.t 30))⟩,
                 ⟨(some 3), none, (.mv (.t 31))⟩]))))
            (.reg 10 none [3, 17, 18, 19] [
              ⟨(some 32), none, (.bin .add false (.t 19) (.k (.v (.int .i64 1))))⟩,
              ⟨(some 19), none, (.mv (.t 32))⟩])))))))
      (.seq
       (.seq
        (.reg 11 none [34] [
          ⟨(some 33), none, (.mv (.t 3))⟩,
          ⟨(some 34), none, (.bin .gtr false (.t 33) (.k (.v (.int .i64 48))))⟩])
        (.cond (.t 34)
         (.seq
          (.reg 12 none [2] [
            ⟨(some 2), none, (.mv (.k (.v (.int .i64 55))))⟩])
          .ret)
         .skip))
       (.seq
        (.reg 13 none [2] [
          ⟨(some 2), none, (.mv (.k (.v (.int .i64 0))))⟩])
        .ret))))))
theorem fn_ref28_Check : FnIR Try.prog F_ref28_Check 35 [(0, [1]), (1, [1, 15]), (2, [2]), (3, [1, 3]), (4, [3, 17, 18, 19]), (5, [3, 17, 18, 19, 20]), (6, [3, 5, 17, 18, 19]), (7, [3, 5, 17, 18, 19, 28]), (8, [2]), (9, [3, 17, 18, 19]), (10, [3, 17, 18, 19]), (11, [34]), (12, [2]), (13, [2])] ir_ref28_Check [(.tmp 2)] :=
  ⟨Try.f31, _, Try.func31, rfl, by kernel_rfl, rfl, by kernel_rfl, by kernel_rfl⟩

/-- dataenclave/dataenclavemade.View -/
def ir_made_View : RC :=
  (.seq
   (.reg 0 none [0, 3, 4] [
     ⟨(some 3), none, (.box (.t 1))⟩,
     ⟨(some 4), none, (.new (.agg [(.v (.slice none 0 0))]))⟩])
   (.seq
    (.reg 1 none [0, 3, 4, 5] [
      ⟨(some 5), none, (.new (.agg [(.v (.slice none 0 0))]))⟩])
    (.seq
     (.seq
      (.reg 2 none [0, 4, 5, 13, 14, 15] [
        ⟨(some 12), none, (.fa 0 (.t 3))⟩,
        ⟨(some 13), none, (.ld none (.t 12))⟩,
        ⟨(some 14), none, (.lenL (.t 13))⟩,
        ⟨(some 15), none, (.mv (.k (.v (.int .i64 0))))⟩])
      (.block 0
       (.loop
        (.seq
         (.reg 3 none [0, 4, 5, 13, 14, 15, 16] [
           ⟨(some 16), none, (.bin .lss false (.t 15) (.t 14))⟩])
         (.seq
          (.cond (.t 16)
           .skip
           (.exit 0))
          (.seq
           (.block 1
            (.seq
             (.reg 4 none [0, 4, 5, 7, 13, 14, 15] [
               ⟨(some 17), none, (.ixL 1 (.t 13) (.t 15))⟩,
               ⟨(some 18), none, (.ld none (.t 17))⟩,
               ⟨(some 7), none, (.mv (.t 18))⟩])
             (.seq
              (.reg 5 none [0, 4, 5, 8, 13, 14, 15] [
                ⟨(some 19), none, (.mv (.t 7))⟩,
                ⟨(some 20), none, (.mk 1 8 (.v (.int .i64 0)) (.t 19) (.t 19))⟩,
                ⟨(some 8), none, (.mv (.t 20))⟩])
              (.seq
               (.reg 6 none [0, 4, 5, 8, 9, 13, 14, 15] [
                 ⟨(some 9), none, (.mv (.k (.v (.int .i64 0))))⟩])
               (.seq
                (.seq
                 (.reg 7 none [0, 4, 5, 8, 9, 13, 14, 15, 22, 23] [
                   ⟨(some 21), none, (.mv (.t 8))⟩,
                   ⟨(some 22), none, (.lenL (.t 21))⟩,
                   ⟨(some 23), none, (.mv (.k (.v (.int .i64 0))))⟩])
                 (.block 2
                  (.loop
                   (.seq
                    (.reg 8 none [0, 4, 5, 8, 9, 13, 14, 15, 22, 23, 24] [
                      ⟨(some 24), none, (.bin .lss false (.t 23) (.t 22))⟩])
                    (.seq
                     (.cond (.t 24)
                      .skip
                      (.exit 2))
                     (.seq
                      (.block 3
                       (.seq
                        (.reg 9 none [0, 4, 5, 8, 9, 10, 13, 14, 15, 22, 23] [
                          ⟨(some 25), none, (.mv (.t 23))⟩,
                          ⟨(some 10), none, (.mv (.t 25))⟩])
                        (.seq
                         (.reg 10 none [0, 4, 5, 8, 9, 10, 11, 13, 14, 15, 22, 23] [
                           ⟨(some 26), none, (.mv (.t 0))⟩,
                           ⟨(some 27), none, (.mv (.t 9))⟩,
                           ⟨(some 28), none, (.bin .add false (.t 27) (.k (.v (.int .i64 2))))⟩,
                           ⟨(some 29), none, (.call (.k (.clo F_draw_Codes_Next [])) [(.t 26), (.t 28)])⟩,
                           ⟨(some 11), none, (.mv (.t 29))⟩])
                         (.seq
                          (.seq
                           (.reg 11 none [0, 4, 5, 8, 9, 10, 11, 13, 14, 15, 22, 23, 32] [
                             ⟨(some 30), none, (.mv (.t 11))⟩,
                             ⟨(some 31), none, (.mv (.t 9))⟩,
                             ⟨(some 32), none, (.bin .gtr false (.t 30) (.t 31))⟩])
                           (.cond (.t 32)
                            (.reg 12 none [0, 4, 5, 8, 9, 10, 11, 13, 14, 15, 22, 23] [
                              ⟨(some 33), none, (.mv (.t 9))⟩,
                              ⟨(some 11), none, (.mv (.t 33))⟩])
                            .skip))
                          (.seq
                           (.seq
                            (.reg 13 none [0, 4, 5, 8, 9, 10, 11, 13, 14, 15, 22, 23, 40] [
                              ⟨(some 34), none, (.mv (.t 0))⟩,
                              ⟨(some 35), none, (.call (.k (.clo F_draw_Codes_Next [])) [(.t 34), (.k (.v (.int .i64 8)))])⟩,
                              ⟨(some 36), none, (.bin .eql false (.t 35) (.k (.v (.int .i64 7))))⟩,
                              ⟨(some 37), none, (.mv (.t 36))⟩,
                              ⟨(some 38), (some (37, true)), (.mv (.t 10))⟩,
                              ⟨(some 39), (some (37, true)), (.bin .gtr false (.t 38) (.k (.v (.int .i64 0))))⟩,
                              ⟨(some 40), none, (.pick (.t 37) (.t 39) (.k (.v (.bool false))))⟩])
                            (.cond (.t 40)
                             (.reg 14 none [0, 4, 5, 8, 9, 10, 11, 13, 14, 15, 22, 23] [
                               ⟨(some 11), none, (.mv (.k (.v (.int .i64 (-1)))))⟩])
                             .skip))
                           (.seq
                            (.reg 15 none [0, 4, 5, 8, 9, 11, 13, 14, 15, 22, 23] [
                              ⟨(some 41), none, (.mv (.t 8))⟩,
                              ⟨(some 42), none, (.mv (.t 10))⟩,
                              ⟨(some 43), none, (.mv (.t 11))⟩,
                              ⟨(some 44), none, (.ixL 1 (.t 41) (.t 42))⟩,
                              ⟨none, none, (.st 1 (.t 44) (.t 43))⟩])
                            (.seq
                             (.reg 16 none [0, 4, 5, 8, 9, 13, 14, 15, 22, 23, 47] [
                               ⟨(some 45), none, (.mv (.t 11))⟩,
                               ⟨(some 46), none, (.mv (.t 9))⟩,
                               ⟨(some 47), none, (.bin .eql false (.t 45) (.t 46))⟩])
                             (.cond (.t 47)
                              (.reg 17 none [0, 4, 5, 8, 9, 13, 14, 15, 22, 23] [
                                ⟨(some 48), none, (.mv (.t 9))⟩,
                                ⟨(some 49), none, (.bin .add false (.t 48) (.k (.v (.int .i64 1))))⟩,
                                ⟨(some 9), none, (.mv (.t 49))⟩])
                              .skip))))))))
                      (.reg 18 none [0, 4, 5, 8, 9, 13, 14, 15, 22, 23] [
                        ⟨(some 50), none, (.bin .add false (.t 23) (.k (.v (.int .i64 1))))⟩,
                        ⟨(some 23), none, (.mv (.t 50))⟩])))))))
                (.reg 19 none [0, 4, 5, 13, 14, 15] [
                  ⟨(some 51), none, (.fa 0 (.t 5))⟩,
                  ⟨(some 52), none, (.ld none (.t 51))⟩,
                  ⟨(some 53), none, (.mv (.t 8))⟩,
                  ⟨(some 54), none, (.bsl 1 1 [(.t 53)])⟩,
                  ⟨(some 55), none, (.app 1 24 false (.t 52) (.t 54))⟩,
                  ⟨(some 56), none, (.fa 0 (.t 5))⟩,
                  ⟨none, none, (.st 1 (.t 56) (.t 55))⟩]))))))
           (.reg 20 none [0, 4, 5, 13, 14, 15] [
             ⟨(some 57), none, (.bin .add false (.t 15) (.k (.v (.int .i64 1))))⟩,
             ⟨(some 15), none, (.mv (.t 57))⟩])))))))
     (.seq
      (.reg 21 none [4] [
        ⟨(some 58), none, (.ld (some 1) (.t 5))⟩,
        ⟨none, none, (.st 1 (.t 4) (.t 58))⟩])
      .ret))))
theorem fn_made_View : FnIR Try.prog F_made_View 59 [(0, [0, 3, 4]), (1, [0, 3, 4, 5]), (2, [0, 4, 5, 13, 14, 15]), (3, [0, 4, 5, 13, 14, 15, 16]), (4, [0, 4, 5, 7, 13, 14, 15]), (5, [0, 4, 5, 8, 13, 14, 15]), (6, [0, 4, 5, 8, 9, 13, 14, 15]), (7, [0, 4, 5, 8, 9, 13, 14, 15, 22, 23]), (8, [0, 4, 5, 8, 9, 13, 14, 15, 22, 23, 24]), (9, [0, 4, 5, 8, 9, 10, 13, 14, 15, 22, 23]), (10, [0, 4, 5, 8, 9, 10, 11, 13, 14, 15, 22, 23]), (11, [0, 4, 5, 8, 9, 10, 11, 13, 14, 15, 22, 23, 32]), (12, [0, 4, 5, 8, 9, 10, 11, 13, 14, 15, 22, 23]), (13, [0, 4, 5, 8, 9, 10, 11, 13, 14, 15, 22, 23, 40]), (14, [0, 4, 5, 8, 9, 10, 11, 13, 14, 15, 22, 23]), (15, [0, 4, 5, 8, 9, 11, 13, 14, 15, 22, 23]), (16, [0, 4, 5, 8, 9, 13, 14, 15, 22, 23, 47]), (17, [0, 4, 5, 8, 9, 13, 14, 15, 22, 23]), (18, [0, 4, 5, 8, 9, 13, 14, 15, 22, 23]), (19, [0, 4, 5, 13, 14, 15]), (20, [0, 4, 5, 13, 14, 15]), (21, [4])] ir_made_View [(.cell 4 (some 1))] :=
  ⟨Try.f32, _, Try.func32, rfl, by kernel_rfl, rfl, by kernel_rfl, by kernel_rfl⟩

/-- dataenclave/cells.Check -/
def ir_cells_Check : RC :=
  (.seq
   (.reg 0 none [1] [
     ⟨(some 1), none, (.box (.t 0))⟩,
     ⟨(some 2), none, (.mv (.k (.v (.int .i64 0))))⟩])
   (.seq
    (.seq
     (.reg 1 none [1, 15] [
       ⟨(some 6), none, (.fa 0 (.t 1))⟩,
       ⟨(some 7), none, (.ld none (.t 6))⟩,
       ⟨(some 8), none, (.lenL (.t 7))⟩,
       ⟨(some 9), none, (.bin .lss false (.t 8) (.k (.v (.int .i64 1))))⟩,
       ⟨(some 10), none, (.mv (.t 9))⟩,
       ⟨(some 11), (some (10, false)), (.fa 0 (.t 1))⟩,
       ⟨(some 12), (some (10, false)), (.ld none (.t 11))⟩,
       ⟨(some 13), (some (10, false)), (.lenL (.t 12))⟩,
       ⟨(some 14), (some (10, false)), (.bin .gtr false (.t 13) (.k (.v (.int .i64 4))))⟩,
       ⟨(some 15), none, (.pick (.t 10) (.k (.v (.bool true))) (.t 14))⟩])
     (.cond (.t 15)
      (.seq
       (.reg 2 none [2] [
         ⟨(some 2), none, (.mv (.k (.v (.int .i64 55))))⟩])
       .ret)
      .skip))
    (.seq
     (.reg 3 none [1, 3] [
       ⟨(some 3), none, (.mv (.k (.v (.int .i64 1))))⟩])
     (.seq
      (.seq
       (.reg 4 none [3, 17, 18, 19] [
         ⟨(some 16), none, (.fa 0 (.t 1))⟩,
         ⟨(some 17), none, (.ld none (.t 16))⟩,
         ⟨(some 18), none, (.lenL (.t 17))⟩,
         ⟨(some 19), none, (.mv (.k (.v (.int .i64 0))))⟩])
       (.block 0
        (.loop
         (.seq
          (.reg 5 none [3, 17, 18, 19, 20] [
            ⟨(some 20), none, (.bin .lss false (.t 19) (.t 18))⟩])
          (.seq
           (.cond (.t 20)
            .skip
            (.exit 0))
           (.seq
            (.block 1
             (.seq
              (.reg 6 none [3, 5, 17, 18, 19] [
                ⟨(some 21), none, (.ixL 1 (.t 17) (.t 19))⟩,
                ⟨(some 22), none, (.ld none (.t 21))⟩,
                ⟨(some 5), none, (.mv (.t 22))⟩])
              (.seq
               (.seq
                (.reg 7 none [3, 5, 17, 18, 19, 28] [
                  ⟨(some 23), none, (.mv (.t 5))⟩,
                  ⟨(some 24), none, (.bin .lss false (.t 23) (.k (.v (.int .i64 1))))⟩,
                  ⟨(some 25), none, (.mv (.t 24))⟩,
                  ⟨(some 26), (some (25, false)), (.mv (.t 5))⟩,
                  ⟨(some 27), (some (25, false)), (.bin .gtr false (.t 26) (.k (.v (.int .i64 8))))⟩,
                  ⟨(some 28), none, (.pick (.t 25) (.k (.v (.bool true))) (.t 27))⟩])
                (.cond (.t 28)
                 (.seq
                  (.reg 8 none [2] [
                    ⟨(some 2), none, (.mv (.k (.v (.int .i64 55))))⟩])
                  .ret)
                 .skip))
               (.reg 9 none [3, 17, 18, 19] [
                 ⟨(some 29), none, (.mv (.t 3))⟩,
                 ⟨(some 30), none, (.mv (.t 5))⟩,
                 ⟨(some 31), none, (.bin .mul false (.t 29) (.t 30))⟩,
                 ⟨(some 3), none, (.mv (.t 31))⟩]))))
            (.reg 10 none [3, 17, 18, 19] [
              ⟨(some 32), none, (.bin .add false (.t 19) (.k (.v (.int .i64 1))))⟩,
              ⟨(some 19), none, (.mv (.t 32))⟩])))))))
      (.seq
       (.seq
        (.reg 11 none [34] [
          ⟨(some 33), none, (.mv (.t 3))⟩,
          ⟨(some 34), none, (.bin .gtr false (.t 33) (.k (.v (.int .i64 48))))⟩])
        (.cond (.t 34)
         (.seq
          (.reg 12 none [2] [
            ⟨(some 2), none, (.mv (.k (.v (.int .i64 55))))⟩])
          .ret)
         .skip))
       (.seq
        (.reg 13 none [2] [
          ⟨(some 2), none, (.mv (.k (.v (.int .i64 0))))⟩])
        .ret))))))
theorem fn_cells_Check : FnIR Try.prog F_cells_Check 35 [(0, [1]), (1, [1, 15]), (2, [2]), (3, [1, 3]), (4, [3, 17, 18, 19]), (5, [3, 17, 18, 19, 20]), (6, [3, 5, 17, 18, 19]), (7, [3, 5, 17, 18, 19, 28]), (8, [2]), (9, [3, 17, 18, 19]), (10, [3, 17, 18, 19]), (11, [34]), (12, [2]), (13, [2])] ir_cells_Check [(.tmp 2)] :=
  ⟨Try.f33, _, Try.func33, rfl, by kernel_rfl, rfl, by kernel_rfl, by kernel_rfl⟩

/-- dataenclave/equations.check -/
def ir_equations_check : RC :=
  (.seq
   (.reg 0 none [2, 3, 4] [
     ⟨(some 3), none, (.box (.t 0))⟩,
     ⟨(some 4), none, (.box (.t 1))⟩,
     ⟨(some 6), none, (.mv (.k (.v (.int .i64 0))))⟩])
   (.seq
    (.seq
     (.reg 1 none [3, 4, 16] [
       ⟨(some 8), none, (.fa 0 (.t 4))⟩,
       ⟨(some 9), none, (.ld none (.t 8))⟩,
       ⟨(some 10), none, (.mv (.t 2))⟩,
       ⟨(some 11), none, (.bin .leq false (.t 9) (.t 10))⟩,
       ⟨(some 12), none, (.mv (.t 11))⟩,
       ⟨(some 13), (some (12, false)), (.fa 0 (.t 4))⟩,
       ⟨(some 14), (some (12, false)), (.ld none (.t 13))⟩,
       ⟨(some 15), (some (12, false)), (.bin .geq false (.t 14) (.k (.v (.int .i64 24))))⟩,
       ⟨(some 16), none, (.pick (.t 12) (.k (.v (.bool true))) (.t 15))⟩])
     (.cond (.t 16)
      (.seq
       (.reg 2 none [6] [
         ⟨(some 6), none, (.mv (.k (.v (.int .i64 48))))⟩])
       .ret)
      .skip))
    (.seq
     (.seq
      (.reg 3 none [3, 4, 7] [
        ⟨(some 17), none, (.ld (some 1) (.t 3))⟩,
        ⟨(some 18), none, (.fa 1 (.t 4))⟩,
        ⟨(some 19), none, (.ld (some 1) (.t 18))⟩,
        ⟨(some 20), none, (.call (.k (.clo F_cells_View [])) [(.t 17), (.t 19)])⟩,
        ⟨(some 7), none, (.mv (.t 20))⟩])
      (.seq
       (.reg 4 none [3, 4, 7, 22] [
         ⟨(some 21), none, (.mv (.t 7))⟩,
         ⟨(some 22), none, (.bin .neq false (.t 21) (.k (.v (.int .i64 0))))⟩])
       (.cond (.t 22)
        (.seq
         (.reg 5 none [6] [
           ⟨(some 23), none, (.mv (.t 7))⟩,
           ⟨(some 6), none, (.mv (.t 23))⟩])
         .ret)
        .skip)))
     (.seq
      (.seq
       (.reg 6 (some [0, 1, 3, 0, 0, 16, 56, 127]) [4, 31] [
         ⟨(some 24), none, (.fa 2 (.t 4))⟩,
         ⟨(some 25), none, (.ld none (.t 24))⟩,
         ⟨(some 26), none, (.lenL (.t 25))⟩,
         ⟨(some 27), none, (.ld (some 1) (.t 3))⟩,
         ⟨(some 28), none, (.fa 1 (.t 4))⟩,
         ⟨(some 29), none, (.ld (some 1) (.t 28))⟩,
         ⟨(some 30), none, (.call (.k (.clo F_cells_Published [])) [(.t 27), (.t 29)])⟩,
         ⟨(some 31), none, (.bin .neq false (.t 26) (.t 30))⟩])
       (.cond (.t 31)
        (.seq
         (.reg 7 none [6] [
           ⟨(some 6), none, (.mv (.k (.v (.int .i64 17))))⟩])
         .ret)
        .skip))
      (.seq
       (.seq
        (.reg 8 none [34] [
          ⟨(some 32), none, (.fa 2 (.t 4))⟩,
          ⟨(some 33), none, (.ld none (.t 32))⟩,
          ⟨(some 34), none, (.call (.k (.clo F_slices_ContainsFunc_int [])) [(.t 33), (.k (.clo F_equations_check_1 []))])⟩])
        (.cond (.t 34)
         (.seq
          (.reg 9 none [6] [
            ⟨(some 6), none, (.mv (.k (.v (.int .i64 2))))⟩])
          .ret)
         .skip))
       (.seq
        (.reg 10 none [6] [
          ⟨(some 6), none, (.mv (.k (.v (.int .i64 0))))⟩])
        .ret))))))
theorem fn_equations_check : FnIR Try.prog F_equations_check 35 [(0, [2, 3, 4]), (1, [3, 4, 16]), (2, [6]), (3, [3, 4, 7]), (4, [3, 4, 7, 22]), (5, [6]), (6, [4, 31]), (7, [6]), (8, [34]), (9, [6]), (10, [6])] ir_equations_check [(.tmp 6)] :=
  ⟨Try.f34, _, Try.func34, rfl, by kernel_rfl, rfl, by kernel_rfl, by kernel_rfl⟩

/-- dataenclave/cells.Members -/
def ir_cells_Members : RC :=
  (.seq
   (.reg 0 none [2, 3, 4] [
     ⟨(some 3), none, (.box (.t 0))⟩,
     ⟨(some 4), none, (.box (.t 1))⟩,
     ⟨(some 6), none, (.mv (.k (.v (.slice none 0 0))))⟩,
     ⟨(some 7), none, (.mv (.k (.v (.int .i64 0))))⟩])
   (.seq
    (.seq
     (.reg 1 none [2, 3, 4, 8] [
       ⟨(some 12), none, (.ld (some 1) (.t 3))⟩,
       ⟨(some 13), none, (.ld (some 1) (.t 4))⟩,
       ⟨(some 14), none, (.call (.k (.clo F_cells_View [])) [(.t 12), (.t 13)])⟩,
       ⟨(some 8), none, (.mv (.t 14))⟩])
     (.seq
      (.reg 2 none [2, 3, 4, 8, 16] [
        ⟨(some 15), none, (.mv (.t 8))⟩,
        ⟨(some 16), none, (.bin .neq false (.t 15) (.k (.v (.int .i64 0))))⟩])
      (.cond (.t 16)
       (.seq
        (.reg 3 none [6, 7] [
          ⟨(some 17), none, (.mv (.t 8))⟩,
          ⟨(some 6), none, (.mv (.k (.v (.slice none 0 0))))⟩,
          ⟨(some 7), none, (.mv (.t 17))⟩])
        .ret)
       .skip)))
    (.seq
     (.seq
      (.reg 4 none [2, 3, 4, 26] [
        ⟨(some 18), none, (.mv (.t 2))⟩,
        ⟨(some 19), none, (.bin .lss false (.t 18) (.k (.v (.int .i64 0))))⟩,
        ⟨(some 20), none, (.mv (.t 19))⟩,
        ⟨(some 21), (some (20, false)), (.mv (.t 2))⟩,
        ⟨(some 22), (some (20, false)), (.ld (some 1) (.t 4))⟩,
        ⟨(some 23), (some (20, false)), (.call (.k (.clo F_cells_sizes [])) [(.t 22)])⟩,
        ⟨(some 24), (some (20, false)), (.call (.k (.clo F_cells_product [])) [(.t 23)])⟩,
        ⟨(some 25), (some (20, false)), (.bin .geq false (.t 21) (.t 24))⟩,
        ⟨(some 26), none, (.pick (.t 20) (.k (.v (.bool true))) (.t 25))⟩])
      (.cond (.t 26)
       (.seq
        (.reg 5 none [6, 7] [
          ⟨(some 6), none, (.mv (.k (.v (.slice none 0 0))))⟩,
          ⟨(some 7), none, (.mv (.k (.v (.int .i64 2))))⟩])
        .ret)
       .skip))
     (.seq
      (.reg 6 none [2, 3, 4, 9] [
        ⟨(some 9), none, (.mv (.k (.v (.slice none 0 0))))⟩])
      (.seq
       (.seq
        (.reg 7 none [2, 9, 29, 30, 31] [
          ⟨(some 27), none, (.ld (some 1) (.t 3))⟩,
          ⟨(some 28), none, (.ld (some 1) (.t 4))⟩,
          ⟨(some 29), none, (.call (.k (.clo F_cells_published [])) [(.t 27), (.t 28)])⟩,
          ⟨(some 30), none, (.lenL (.t 29))⟩,
          ⟨(some 31), none, (.mv (.k (.v (.int .i64 0))))⟩])
        (.block 0
         (.loop
          (.seq
           (.reg 8 none [2, 9, 29, 30, 31, 32] [
             ⟨(some 32), none, (.bin .lss false (.t 31) (.t 30))⟩])
           (.seq
            (.cond (.t 32)
             .skip
             (.exit 0))
            (.seq
             (.block 1
              (.seq
               (.reg 9 none [2, 9, 10, 11, 29, 30, 31] [
                 ⟨(some 33), none, (.mv (.t 31))⟩,
                 ⟨(some 34), none, (.ixL 1 (.t 29) (.t 31))⟩,
                 ⟨(some 35), none, (.ld none (.t 34))⟩,
                 ⟨(some 10), none, (.mv (.t 33))⟩,
                 ⟨(some 11), none, (.mv (.t 35))⟩])
               (.seq
                (.reg 10 none [2, 9, 10, 29, 30, 31, 38] [
                  ⟨(some 36), none, (.mv (.t 11))⟩,
                  ⟨(some 37), none, (.mv (.t 2))⟩,
                  ⟨(some 38), none, (.bin .eql false (.t 36) (.t 37))⟩])
                (.cond (.t 38)
                 (.reg 11 none [2, 9, 29, 30, 31] [
                   ⟨(some 39), none, (.mv (.t 9))⟩,
                   ⟨(some 40), none, (.mv (.t 10))⟩,
                   ⟨(some 41), none, (.bsl 1 1 [(.t 40)])⟩,
                   ⟨(some 42), none, (.app 1 8 false (.t 39) (.t 41))⟩,
                   ⟨(some 9), none, (.mv (.t 42))⟩])
                 .skip))))
             (.reg 12 none [2, 9, 29, 30, 31] [
               ⟨(some 43), none, (.bin .add false (.t 31) (.k (.v (.int .i64 1))))⟩,
               ⟨(some 31), none, (.mv (.t 43))⟩])))))))
       (.seq
        (.reg 13 none [6, 7] [
          ⟨(some 44), none, (.mv (.t 9))⟩,
          ⟨(some 6), none, (.mv (.t 44))⟩,
          ⟨(some 7), none, (.mv (.k (.v (.int .i64 0))))⟩])
        .ret))))))
theorem fn_cells_Members : FnIR Try.prog F_cells_Members 45 [(0, [2, 3, 4]), (1, [2, 3, 4, 8]), (2, [2, 3, 4, 8, 16]), (3, [6, 7]), (4, [2, 3, 4, 26]), (5, [6, 7]), (6, [2, 3, 4, 9]), (7, [2, 9, 29, 30, 31]), (8, [2, 9, 29, 30, 31, 32]), (9, [2, 9, 10, 11, 29, 30, 31]), (10, [2, 9, 10, 29, 30, 31, 38]), (11, [2, 9, 29, 30, 31]), (12, [2, 9, 29, 30, 31]), (13, [6, 7])] ir_cells_Members [(.tmp 6), (.tmp 7)] :=
  ⟨Try.f35, _, Try.func35, rfl, by kernel_rfl, rfl, by kernel_rfl, by kernel_rfl⟩

/-- slices.IndexFunc[[]int,int] -/
def ir_slices_IndexFunc_int : RC :=
  (.seq
   (.reg 0 none [0, 1] [
     ⟨(some 4), none, (.mv (.k (.v (.int .i64 0))))⟩])
   (.seq
    (.seq
     (.reg 1 none [0, 1, 7, 8] [
       ⟨(some 6), none, (.mv (.t 0))⟩,
       ⟨(some 7), none, (.lenL (.t 6))⟩,
       ⟨(some 8), none, (.mv (.k (.v (.int .i64 0))))⟩])
     (.block 0
      (.loop
       (.seq
        (.reg 2 none [0, 1, 7, 8, 9] [
          ⟨(some 9), none, (.bin .lss false (.t 8) (.t 7))⟩])
        (.seq
         (.cond (.t 9)
          .skip
          (.exit 0))
         (.seq
          (.block 1
           (.seq
            (.reg 3 none [0, 1, 5, 7, 8] [
              ⟨(some 10), none, (.mv (.t 8))⟩,
              ⟨(some 5), none, (.mv (.t 10))⟩])
            (.seq
             (.reg 4 none [0, 1, 5, 7, 8, 16] [
               ⟨(some 11), none, (.mv (.t 1))⟩,
               ⟨(some 12), none, (.mv (.t 0))⟩,
               ⟨(some 13), none, (.mv (.t 5))⟩,
               ⟨(some 14), none, (.ixL 1 (.t 12) (.t 13))⟩,
               ⟨(some 15), none, (.ld none (.t 14))⟩,
               ⟨(some 16), none, (.call (.t 11) [(.t 15)])⟩])
             (.cond (.t 16)
              (.seq
               (.reg 5 none [4] [
                 ⟨(some 17), none, (.mv (.t 5))⟩,
                 ⟨(some 4), none, (.mv (.t 17))⟩])
               .ret)
              .skip))))
          (.reg 6 none [0, 1, 7, 8] [
            ⟨(some 18), none, (.bin .add false (.t 8) (.k (.v (.int .i64 1))))⟩,
            ⟨(some 8), none, (.mv (.t 18))⟩])))))))
    (.seq
     (.reg 7 none [4] [
       ⟨(some 4), none, (.mv (.k (.v (.int .i64 (-1)))))⟩])
     .ret)))
theorem fn_slices_IndexFunc_int : FnIR Try.prog F_slices_IndexFunc_int 19 [(0, [0, 1]), (1, [0, 1, 7, 8]), (2, [0, 1, 7, 8, 9]), (3, [0, 1, 5, 7, 8]), (4, [0, 1, 5, 7, 8, 16]), (5, [4]), (6, [0, 1, 7, 8]), (7, [4])] ir_slices_IndexFunc_int [(.tmp 4)] :=
  ⟨Try.f36, _, Try.func36, rfl, by kernel_rfl, rfl, by kernel_rfl, by kernel_rfl⟩

/-- dataenclave/dataenclaveref28.Groups -/
def ir_ref28_Groups : RC :=
  (.seq
   (.reg 0 none [0] [
     ⟨(some 2), none, (.mv (.k (.v (.int .i64 0))))⟩])
   (.seq
    (.reg 1 none [0, 3] [
      ⟨(some 3), none, (.mv (.k (.v (.int .i64 0))))⟩])
    (.seq
     (.seq
      (.reg 2 none [3, 6, 7, 8] [
        ⟨(some 6), none, (.mv (.t 0))⟩,
        ⟨(some 7), none, (.lenL (.t 6))⟩,
        ⟨(some 8), none, (.mv (.k (.v (.int .i64 0))))⟩])
      (.block 0
       (.loop
        (.seq
         (.reg 3 none [3, 6, 7, 8, 9] [
           ⟨(some 9), none, (.bin .lss false (.t 8) (.t 7))⟩])
         (.seq
          (.cond (.t 9)
           .skip
           (.exit 0))
          (.seq
           (.block 1
            (.seq
             (.reg 4 none [3, 5, 6, 7, 8] [
               ⟨(some 10), none, (.ixL 1 (.t 6) (.t 8))⟩,
               ⟨(some 11), none, (.ld none (.t 10))⟩,
               ⟨(some 5), none, (.mv (.t 11))⟩])
             (.reg 5 none [3, 6, 7, 8] [
               ⟨(some 12), none, (.mv (.t 3))⟩,
               ⟨(some 13), none, (.mv (.t 5))⟩,
               ⟨(some 14), none, (.bin .add false (.t 13) (.k (.v (.int .i64 1))))⟩,
               ⟨(some 15), none, (.mx [(.t 12), (.t 14)])⟩,
               ⟨(some 3), none, (.mv (.t 15))⟩])))
           (.reg 6 none [3, 6, 7, 8] [
             ⟨(some 16), none, (.bin .add false (.t 8) (.k (.v (.int .i64 1))))⟩,
             ⟨(some 8), none, (.mv (.t 16))⟩])))))))
     (.seq
      (.reg 7 none [2] [
        ⟨(some 17), none, (.mv (.t 3))⟩,
        ⟨(some 2), none, (.mv (.t 17))⟩])
      .ret))))
theorem fn_ref28_Groups : FnIR Try.prog F_ref28_Groups 18 [(0, [0]), (1, [0, 3]), (2, [3, 6, 7, 8]), (3, [3, 6, 7, 8, 9]), (4, [3, 5, 6, 7, 8]), (5, [3, 6, 7, 8]), (6, [3, 6, 7, 8]), (7, [2])] ir_ref28_Groups [(.tmp 2)] :=
  ⟨Try.f37, _, Try.func37, rfl, by kernel_rfl, rfl, by kernel_rfl, by kernel_rfl⟩

/-- dataenclave/dataenclaveref28.At -/
def ir_ref28_At : RC :=
  (.seq
   (.reg 0 none [1, 2] [
     ⟨(some 2), none, (.box (.t 0))⟩,
     ⟨(some 4), none, (.mv (.k (.v (.slice none 0 0))))⟩,
     ⟨(some 5), none, (.mv (.k (.v (.int .i64 0))))⟩])
   (.seq
    (.seq
     (.reg 1 none [1, 2, 6] [
       ⟨(some 9), none, (.ld (some 1) (.t 2))⟩,
       ⟨(some 10), none, (.call (.k (.clo F_ref28_Check [])) [(.t 9)])⟩,
       ⟨(some 6), none, (.mv (.t 10))⟩])
     (.seq
      (.reg 2 none [1, 2, 6, 12] [
        ⟨(some 11), none, (.mv (.t 6))⟩,
        ⟨(some 12), none, (.bin .neq false (.t 11) (.k (.v (.int .i64 0))))⟩])
      (.cond (.t 12)
       (.seq
        (.reg 3 none [4, 5] [
          ⟨(some 13), none, (.mv (.t 6))⟩,
          ⟨(some 4), none, (.mv (.k (.v (.slice none 0 0))))⟩,
          ⟨(some 5), none, (.mv (.t 13))⟩])
        .ret)
       .skip)))
    (.seq
     (.seq
      (.reg 4 none [1, 2, 21] [
        ⟨(some 14), none, (.mv (.t 1))⟩,
        ⟨(some 15), none, (.bin .lss false (.t 14) (.k (.v (.int .i64 0))))⟩,
        ⟨(some 16), none, (.mv (.t 15))⟩,
        ⟨(some 17), (some (16, false)), (.mv (.t 1))⟩,
        ⟨(some 18), (some (16, false)), (.ld (some 1) (.t 2))⟩,
        ⟨(some 19), (some (16, false)), (.call (.k (.clo F_ref28_Count [])) [(.t 18)])⟩,
        ⟨(some 20), (some (16, false)), (.bin .geq false (.t 17) (.t 19))⟩,
        ⟨(some 21), none, (.pick (.t 16) (.k (.v (.bool true))) (.t 20))⟩])
      (.cond (.t 21)
       (.seq
        (.reg 5 none [4, 5] [
          ⟨(some 4), none, (.mv (.k (.v (.slice none 0 0))))⟩,
          ⟨(some 5), none, (.mv (.k (.v (.int .i64 2))))⟩])
        .ret)
       .skip))
     (.seq
      (.reg 6 none [1, 2, 7] [
        ⟨(some 22), none, (.fa 0 (.t 2))⟩,
        ⟨(some 23), none, (.ld none (.t 22))⟩,
        ⟨(some 24), none, (.lenL (.t 23))⟩,
        ⟨(some 25), none, (.mk 1 8 (.v (.int .i64 0)) (.t 24) (.t 24))⟩,
        ⟨(some 7), none, (.mv (.t 25))⟩])
      (.seq
       (.seq
        (.reg 7 none [1, 2, 7, 8] [
          ⟨(some 26), none, (.fa 0 (.t 2))⟩,
          ⟨(some 27), none, (.ld none (.t 26))⟩,
          ⟨(some 28), none, (.lenL (.t 27))⟩,
          ⟨(some 29), none, (.bin .sub false (.t 28) (.k (.v (.int .i64 1))))⟩,
          ⟨(some 8), none, (.mv (.t 29))⟩])
        (.block 0
         (.loop
          (.seq
           (.seq
            (.reg 8 none [1, 2, 7, 8, 31] [
              ⟨(some 30), none, (.mv (.t 8))⟩,
              ⟨(some 31), none, (.bin .geq false (.t 30) (.k (.v (.int .i64 0))))⟩])
            (.cond (.t 31)
             .skip
             (.exit 0)))
           (.seq
            (.block 1
             (.seq
              (.reg 10 none [1, 2, 7, 8] [
                ⟨(some 34), none, (.mv (.t 7))⟩,
                ⟨(some 35), none, (.mv (.t 8))⟩,
                ⟨(some 36), none, (.mv (.t 1))⟩,
                ⟨(some 37), none, (.fa 0 (.t 2))⟩,
                ⟨(some 38), none, (.ld none (.t 37))⟩,
                ⟨(some 39), none, (.mv (.t 8))⟩,
                ⟨(some 40), none, (.ixL 1 (.t 38) (.t 39))⟩,
                ⟨(some 41), none, (.ld none (.t 40))⟩,
                ⟨(some 42), none, (.bin .rem false (.t 36) (.t 41))⟩,
                ⟨(some 43), none, (.ixL 1 (.t 34) (.t 35))⟩,
                ⟨none, none, (.st 1 (.t 43) (.t 42))⟩])
              (.reg 11 none [1, 2, 7, 8] [
                ⟨(some 44), none, (.mv (.t 1))⟩,
                ⟨(some 45), none, (.fa 0 (.t 2))⟩,
                ⟨(some 46), none, (.ld none (.t 45))⟩,
                ⟨(some 47), none, (.mv (.t 8))⟩,
                ⟨(some 48), none, (.ixL 1 (.t 46) (.t 47))⟩,
                ⟨(some 49), none, (.ld none (.t 48))⟩,
                ⟨(some 50), none, (.bin .quo false (.t 44) (.t 49))⟩,
                ⟨(some 1), none, (.mv (.t 50))⟩])))
            (.reg 9 none [1, 2, 7, 8] [
              ⟨(some 32), none, (.mv (.t 8))⟩,
              ⟨(some 33), none, (.bin .sub false (.t 32) (.k (.v (.int .i64 1))))⟩,
              ⟨(some 8), none, (.mv (.t 33))⟩]))))))
       (.seq
        (.reg 12 none [4, 5] [
          ⟨(some 51), none, (.mv (.t 7))⟩,
          ⟨(some 4), none, (.mv (.t 51))⟩,
          ⟨(some 5), none, (.mv (.k (.v (.int .i64 0))))⟩])
        .ret))))))
theorem fn_ref28_At : FnIR Try.prog F_ref28_At 52 [(0, [1, 2]), (1, [1, 2, 6]), (2, [1, 2, 6, 12]), (3, [4, 5]), (4, [1, 2, 21]), (5, [4, 5]), (6, [1, 2, 7]), (7, [1, 2, 7, 8]), (8, [1, 2, 7, 8, 31]), (9, [1, 2, 7, 8]), (10, [1, 2, 7, 8]), (11, [1, 2, 7, 8]), (12, [4, 5])] ir_ref28_At [(.tmp 4), (.tmp 5)] :=
  ⟨Try.f38, _, Try.func38, rfl, by kernel_rfl, rfl, by kernel_rfl, by kernel_rfl⟩

/-- slices.IndexFunc[[]dataenclave/api.Equation,dataenclave/api.Equation] -/
def ir_slices_IndexFunc_Equation : RC :=
  (.seq
   (.reg 0 none [0, 1] [
     ⟨(some 4), none, (.mv (.k (.v (.int .i64 0))))⟩])
   (.seq
    (.seq
     (.reg 1 none [0, 1, 7, 8] [
       ⟨(some 6), none, (.mv (.t 0))⟩,
       ⟨(some 7), none, (.lenL (.t 6))⟩,
       ⟨(some 8), none, (.mv (.k (.v (.int .i64 0))))⟩])
     (.block 0
      (.loop
       (.seq
        (.reg 2 none [0, 1, 7, 8, 9] [
          ⟨(some 9), none, (.bin .lss false (.t 8) (.t 7))⟩])
        (.seq
         (.cond (.t 9)
          .skip
          (.exit 0))
         (.seq
          (.block 1
           (.seq
            (.reg 3 none [0, 1, 5, 7, 8] [
              ⟨(some 10), none, (.mv (.t 8))⟩,
              ⟨(some 5), none, (.mv (.t 10))⟩])
            (.seq
             (.reg 4 none [0, 1, 5, 7, 8, 16] [
               ⟨(some 11), none, (.mv (.t 1))⟩,
               ⟨(some 12), none, (.mv (.t 0))⟩,
               ⟨(some 13), none, (.mv (.t 5))⟩,
               ⟨(some 14), none, (.ixL 2 (.t 12) (.t 13))⟩,
               ⟨(some 15), none, (.ld (some 2) (.t 14))⟩,
               ⟨(some 16), none, (.call (.t 11) [(.t 15)])⟩])
             (.cond (.t 16)
              (.seq
               (.reg 5 none [4] [
                 ⟨(some 17), none, (.mv (.t 5))⟩,
                 ⟨(some 4), none, (.mv (.t 17))⟩])
               .ret)
              .skip))))
          (.reg 6 none [0, 1, 7, 8] [
            ⟨(some 18), none, (.bin .add false (.t 8) (.k (.v (.int .i64 1))))⟩,
            ⟨(some 8), none, (.mv (.t 18))⟩])))))))
    (.seq
     (.reg 7 none [4] [
       ⟨(some 4), none, (.mv (.k (.v (.int .i64 (-1)))))⟩])
     .ret)))
theorem fn_slices_IndexFunc_Equation : FnIR Try.prog F_slices_IndexFunc_Equation 19 [(0, [0, 1]), (1, [0, 1, 7, 8]), (2, [0, 1, 7, 8, 9]), (3, [0, 1, 5, 7, 8]), (4, [0, 1, 5, 7, 8, 16]), (5, [4]), (6, [0, 1, 7, 8]), (7, [4])] ir_slices_IndexFunc_Equation [(.tmp 4)] :=
  ⟨Try.f39, _, Try.func39, rfl, by kernel_rfl, rfl, by kernel_rfl, by kernel_rfl⟩

/-- dataenclave/cells.View -/
def ir_cells_View : RC :=
  (.seq
   (.reg 0 none [2, 3] [
     ⟨(some 2), none, (.box (.t 0))⟩,
     ⟨(some 3), none, (.box (.t 1))⟩,
     ⟨(some 4), none, (.mv (.k (.v (.int .i64 0))))⟩])
   (.seq
    (.seq
     (.reg 1 none [2, 3, 5] [
       ⟨(some 8), none, (.ld (some 1) (.t 2))⟩,
       ⟨(some 9), none, (.call (.k (.clo F_cells_Check [])) [(.t 8)])⟩,
       ⟨(some 5), none, (.mv (.t 9))⟩])
     (.seq
      (.reg 2 none [2, 3, 5, 11] [
        ⟨(some 10), none, (.mv (.t 5))⟩,
        ⟨(some 11), none, (.bin .neq false (.t 10) (.k (.v (.int .i64 0))))⟩])
      (.cond (.t 11)
       (.seq
        (.reg 3 none [4] [
          ⟨(some 12), none, (.mv (.t 5))⟩,
          ⟨(some 4), none, (.mv (.t 12))⟩])
        .ret)
       .skip)))
    (.seq
     (.seq
      (.reg 4 none [2, 3, 19] [
        ⟨(some 13), none, (.fa 0 (.t 3))⟩,
        ⟨(some 14), none, (.ld none (.t 13))⟩,
        ⟨(some 15), none, (.lenL (.t 14))⟩,
        ⟨(some 16), none, (.fa 0 (.t 2))⟩,
        ⟨(some 17), none, (.ld none (.t 16))⟩,
        ⟨(some 18), none, (.lenL (.t 17))⟩,
        ⟨(some 19), none, (.bin .neq false (.t 15) (.t 18))⟩])
      (.cond (.t 19)
       (.seq
        (.reg 5 none [4] [
          ⟨(some 4), none, (.mv (.k (.v (.int .i64 55))))⟩])
        .ret)
       .skip))
     (.seq
      (.seq
       (.reg 6 none [2, 21, 22, 23] [
         ⟨(some 20), none, (.fa 0 (.t 3))⟩,
         ⟨(some 21), none, (.ld none (.t 20))⟩,
         ⟨(some 22), none, (.lenL (.t 21))⟩,
         ⟨(some 23), none, (.mv (.k (.v (.int .i64 0))))⟩])
       (.block 0
        (.loop
         (.seq
          (.reg 7 none [2, 21, 22, 23, 24] [
            ⟨(some 24), none, (.bin .lss false (.t 23) (.t 22))⟩])
          (.seq
           (.cond (.t 24)
            .skip
            (.exit 0))
           (.seq
            (.block 1
             (.seq
              (.reg 8 none [2, 6, 7, 21, 22, 23] [
                ⟨(some 25), none, (.mv (.t 23))⟩,
                ⟨(some 26), none, (.ixL 1 (.t 21) (.t 23))⟩,
                ⟨(some 27), none, (.ld none (.t 26))⟩,
                ⟨(some 6), none, (.mv (.t 25))⟩,
                ⟨(some 7), none, (.mv (.t 27))⟩])
              (.seq
               (.reg 9 none [2, 21, 22, 23, 40] [
                 ⟨(some 28), none, (.mv (.t 7))⟩,
                 ⟨(some 29), none, (.lenL (.t 28))⟩,
                 ⟨(some 30), none, (.fa 0 (.t 2))⟩,
                 ⟨(some 31), none, (.ld none (.t 30))⟩,
                 ⟨(some 32), none, (.mv (.t 6))⟩,
                 ⟨(some 33), none, (.ixL 1 (.t 31) (.t 32))⟩,
                 ⟨(some 34), none, (.ld none (.t 33))⟩,
                 ⟨(some 35), none, (.bin .neq false (.t 29) (.t 34))⟩,
                 ⟨(some 36), none, (.mv (.t 35))⟩,
                 ⟨(some 37), (some (36, false)), (.mv (.t 7))⟩,
                 ⟨(some 38), (some (36, false)), (.call (.k (.clo F_cells_numbered [])) [(.t 37)])⟩,
                 ⟨(some 39), (some (36, false)), (.un .not (.t 38))⟩,
                 ⟨(some 40), none, (.pick (.t 36) (.k (.v (.bool true))) (.t 39))⟩])
               (.cond (.t 40)
                (.seq
                 (.reg 10 none [4] [
                   ⟨(some 4), none, (.mv (.k (.v (.int .i64 55))))⟩])
                 .ret)
                .skip))))
            (.reg 11 none [2, 21, 22, 23] [
              ⟨(some 41), none, (.bin .add false (.t 23) (.k (.v (.int .i64 1))))⟩,
              ⟨(some 23), none, (.mv (.t 41))⟩])))))))
      (.seq
       (.reg 12 none [4] [
         ⟨(some 4), none, (.mv (.k (.v (.int .i64 0))))⟩])
       .ret)))))
theorem fn_cells_View : FnIR Try.prog F_cells_View 42 [(0, [2, 3]), (1, [2, 3, 5]), (2, [2, 3, 5, 11]), (3, [4]), (4, [2, 3, 19]), (5, [4]), (6, [2, 21, 22, 23]), (7, [2, 21, 22, 23, 24]), (8, [2, 6, 7, 21, 22, 23]), (9, [2, 21, 22, 23, 40]), (10, [4]), (11, [2, 21, 22, 23]), (12, [4])] ir_cells_View [(.tmp 4)] :=
  ⟨Try.f40, _, Try.func40, rfl, by kernel_rfl, rfl, by kernel_rfl, by kernel_rfl⟩

/-- dataenclave/cells.Published -/
def ir_cells_Published : RC :=
  (.seq
   (.reg 0 none [2, 3] [
     ⟨(some 2), none, (.box (.t 0))⟩,
     ⟨(some 3), none, (.box (.t 1))⟩,
     ⟨(some 4), none, (.mv (.k (.v (.int .i64 0))))⟩])
   (.seq
    (.seq
     (.reg 1 none [3, 8] [
       ⟨(some 5), none, (.ld (some 1) (.t 2))⟩,
       ⟨(some 6), none, (.ld (some 1) (.t 3))⟩,
       ⟨(some 7), none, (.call (.k (.clo F_cells_View [])) [(.t 5), (.t 6)])⟩,
       ⟨(some 8), none, (.bin .neq false (.t 7) (.k (.v (.int .i64 0))))⟩])
     (.cond (.t 8)
      (.seq
       (.reg 2 none [4] [
         ⟨(some 4), none, (.mv (.k (.v (.int .i64 0))))⟩])
       .ret)
      .skip))
    (.seq
     (.reg 3 none [4] [
       ⟨(some 9), none, (.ld (some 1) (.t 3))⟩,
       ⟨(some 10), none, (.call (.k (.clo F_cells_sizes [])) [(.t 9)])⟩,
       ⟨(some 11), none, (.call (.k (.clo F_cells_product [])) [(.t 10)])⟩,
       ⟨(some 4), none, (.mv (.t 11))⟩])
     .ret)))
theorem fn_cells_Published : FnIR Try.prog F_cells_Published 12 [(0, [2, 3]), (1, [3, 8]), (2, [4]), (3, [4])] ir_cells_Published [(.tmp 4)] :=
  ⟨Try.f41, _, Try.func41, rfl, by kernel_rfl, rfl, by kernel_rfl, by kernel_rfl⟩

/-- dataenclave/equations.check$1 -/
def ir_equations_check_1 : RC :=
  (.seq
   (.reg 0 none [0] [
     ⟨(some 2), none, (.mv (.k (.v (.bool false))))⟩])
   (.seq
    (.reg 1 none [2] [
      ⟨(some 3), none, (.mv (.t 0))⟩,
      ⟨(some 4), none, (.bin .neq false (.t 3) (.k (.v (.int .i64 (-1)))))⟩,
      ⟨(some 5), none, (.mv (.t 4))⟩,
      ⟨(some 6), (some (5, true)), (.mv (.t 0))⟩,
      ⟨(some 7), (some (5, true)), (.call (.k (.clo F_equations_value [])) [(.t 6)])⟩,
      ⟨(some 8), (some (5, true)), (.un .not (.t 7))⟩,
      ⟨(some 9), none, (.pick (.t 5) (.t 8) (.k (.v (.bool false))))⟩,
      ⟨(some 2), none, (.mv (.t 9))⟩])
    .ret))
theorem fn_equations_check_1 : FnIR Try.prog F_equations_check_1 10 [(0, [0]), (1, [2])] ir_equations_check_1 [(.tmp 2)] :=
  ⟨Try.f42, _, Try.func42, rfl, by kernel_rfl, rfl, by kernel_rfl, by kernel_rfl⟩

/-- dataenclave/cells.product -/
def ir_cells_product : RC :=
  (.seq
   (.reg 0 none [0] [
     ⟨(some 2), none, (.mv (.k (.v (.int .i64 0))))⟩])
   (.seq
    (.reg 1 none [0, 3] [
      ⟨(some 3), none, (.mv (.k (.v (.int .i64 1))))⟩])
    (.seq
     (.seq
      (.reg 2 none [3, 6, 7, 8] [
        ⟨(some 6), none, (.mv (.t 0))⟩,
        ⟨(some 7), none, (.lenL (.t 6))⟩,
        ⟨(some 8), none, (.mv (.k (.v (.int .i64 0))))⟩])
      (.block 0
       (.loop
        (.seq
         (.reg 3 none [3, 6, 7, 8, 9] [
           ⟨(some 9), none, (.bin .lss false (.t 8) (.t 7))⟩])
         (.seq
          (.cond (.t 9)
           .skip
           (.exit 0))
          (.seq
           (.block 1
            (.seq
             (.reg 4 none [3, 5, 6, 7, 8] [
               ⟨(some 10), none, (.ixL 1 (.t 6) (.t 8))⟩,
               ⟨(some 11), none, (.ld none (.t 10))⟩,
               ⟨(some 5), none, (.mv (.t 11))⟩])
             (.reg 5 none [3, 6, 7, 8] [
               ⟨(some 12), none, (.mv (.t 3))⟩,
               ⟨(some 13), none, (.mv (.t 5))⟩,
               ⟨(some 14), none, (.bin .mul false (.t 12) (.t 13))⟩,
               ⟨(some 3), none, (.mv (.t 14))⟩])))
           (.reg 6 none [3, 6, 7, 8] [
             ⟨(some 15), none, (.bin .add false (.t 8) (.k (.v (.int .i64 1))))⟩,
             ⟨(some 8), none, (.mv (.t 15))⟩])))))))
     (.seq
      (.reg 7 none [2] [
        ⟨(some 16), none, (.mv (.t 3))⟩,
        ⟨(some 2), none, (.mv (.t 16))⟩])
      .ret))))
theorem fn_cells_product : FnIR Try.prog F_cells_product 17 [(0, [0]), (1, [0, 3]), (2, [3, 6, 7, 8]), (3, [3, 6, 7, 8, 9]), (4, [3, 5, 6, 7, 8]), (5, [3, 6, 7, 8]), (6, [3, 6, 7, 8]), (7, [2])] ir_cells_product [(.tmp 2)] :=
  ⟨Try.f43, _, Try.func43, rfl, by kernel_rfl, rfl, by kernel_rfl, by kernel_rfl⟩

/-- dataenclave/cells.sizes -/
def ir_cells_sizes : RC :=
  (.seq
   (.reg 0 none [1] [
     ⟨(some 1), none, (.box (.t 0))⟩,
     ⟨(some 2), none, (.mv (.k (.v (.slice none 0 0))))⟩])
   (.seq
    (.reg 1 none [1, 3] [
      ⟨(some 3), none, (.mv (.k (.v (.slice none 0 0))))⟩])
    (.seq
     (.seq
      (.reg 2 none [3, 7, 8, 9] [
        ⟨(some 6), none, (.fa 0 (.t 1))⟩,
        ⟨(some 7), none, (.ld none (.t 6))⟩,
        ⟨(some 8), none, (.lenL (.t 7))⟩,
        ⟨(some 9), none, (.mv (.k (.v (.int .i64 0))))⟩])
      (.block 0
       (.loop
        (.seq
         (.reg 3 none [3, 7, 8, 9, 10] [
           ⟨(some 10), none, (.bin .lss false (.t 9) (.t 8))⟩])
         (.seq
          (.cond (.t 10)
           .skip
           (.exit 0))
          (.seq
           (.block 1
            (.seq
             (.reg 4 none [3, 5, 7, 8, 9] [
               ⟨(some 11), none, (.ixL 1 (.t 7) (.t 9))⟩,
               ⟨(some 12), none, (.ld none (.t 11))⟩,
               ⟨(some 5), none, (.mv (.t 12))⟩])
             (.reg 5 none [3, 7, 8, 9] [
               ⟨(some 13), none, (.mv (.t 3))⟩,
               ⟨(some 14), none, (.mv (.t 5))⟩,
               ⟨(some 15), none, (.call (.k (.clo F_slices_Max_int [])) [(.t 14)])⟩,
               ⟨(some 16), none, (.bin .add false (.k (.v (.int .i64 1))) (.t 15))⟩,
               ⟨(some 17), none, (.bsl 1 1 [(.t 16)])⟩,
               ⟨(some 18), none, (.app 1 8 false (.t 13) (.t 17))⟩,
               ⟨(some 3), none, (.mv (.t 18))⟩])))
           (.reg 6 none [3, 7, 8, 9] [
             ⟨(some 19), none, (.bin .add false (.t 9) (.k (.v (.int .i64 1))))⟩,
             ⟨(some 9), none, (.mv (.t 19))⟩])))))))
     (.seq
      (.reg 7 none [2] [
        ⟨(some 20), none, (.mv (.t 3))⟩,
        ⟨(some 2), none, (.mv (.t 20))⟩])
      .ret))))
theorem fn_cells_sizes : FnIR Try.prog F_cells_sizes 21 [(0, [1]), (1, [1, 3]), (2, [3, 7, 8, 9]), (3, [3, 7, 8, 9, 10]), (4, [3, 5, 7, 8, 9]), (5, [3, 7, 8, 9]), (6, [3, 7, 8, 9]), (7, [2])] ir_cells_sizes [(.tmp 2)] :=
  ⟨Try.f44, _, Try.func44, rfl, by kernel_rfl, rfl, by kernel_rfl, by kernel_rfl⟩

/-- dataenclave/cells.published -/
def ir_cells_published : RC :=
  (.seq
   (.reg 0 none [2, 3] [
     ⟨(some 2), none, (.box (.t 0))⟩,
     ⟨(some 3), none, (.box (.t 1))⟩,
     ⟨(some 4), none, (.mv (.k (.v (.slice none 0 0))))⟩])
   (.seq
    (.reg 1 none [2, 3, 5] [
      ⟨(some 11), none, (.ld (some 1) (.t 3))⟩,
      ⟨(some 12), none, (.call (.k (.clo F_cells_sizes [])) [(.t 11)])⟩,
      ⟨(some 5), none, (.mv (.t 12))⟩])
    (.seq
     (.reg 2 none [2, 3, 5, 6] [
       ⟨(some 6), none, (.mv (.k (.v (.slice none 0 0))))⟩])
     (.seq
      (.seq
       (.reg 3 none [2, 3, 5, 6, 15, 16] [
         ⟨(some 13), none, (.fa 0 (.t 2))⟩,
         ⟨(some 14), none, (.ld none (.t 13))⟩,
         ⟨(some 15), none, (.call (.k (.clo F_cells_product [])) [(.t 14)])⟩,
         ⟨(some 16), none, (.mv (.k (.v (.int .i64 0))))⟩])
       (.block 0
        (.loop
         (.seq
          (.reg 4 none [2, 3, 5, 6, 15, 16, 17] [
            ⟨(some 17), none, (.bin .lss false (.t 16) (.t 15))⟩])
          (.seq
           (.cond (.t 17)
            .skip
            (.exit 0))
           (.seq
            (.block 1
             (.seq
              (.reg 5 none [2, 3, 5, 6, 7, 15, 16] [
                ⟨(some 18), none, (.mv (.t 16))⟩,
                ⟨(some 7), none, (.mv (.t 18))⟩])
              (.seq
               (.reg 6 none [2, 3, 5, 6, 8, 15, 16] [
                 ⟨(some 19), none, (.fa 0 (.t 2))⟩,
                 ⟨(some 20), none, (.ld none (.t 19))⟩,
                 ⟨(some 21), none, (.mv (.t 7))⟩,
                 ⟨(some 22), none, (.call (.k (.clo F_cells_places [])) [(.t 20), (.t 21)])⟩,
                 ⟨(some 8), none, (.mv (.t 22))⟩])
               (.seq
                (.seq
                 (.reg 7 none [2, 3, 5, 6, 8, 15, 16, 23, 24, 25] [
                   ⟨(some 23), none, (.mv (.t 8))⟩,
                   ⟨(some 24), none, (.lenL (.t 23))⟩,
                   ⟨(some 25), none, (.mv (.k (.v (.int .i64 0))))⟩])
                 (.block 2
                  (.loop
                   (.seq
                    (.reg 8 none [2, 3, 5, 6, 8, 15, 16, 23, 24, 25, 26] [
                      ⟨(some 26), none, (.bin .lss false (.t 25) (.t 24))⟩])
                    (.seq
                     (.cond (.t 26)
                      .skip
                      (.exit 2))
                     (.seq
                      (.block 3
                       (.seq
                        (.reg 9 none [2, 3, 5, 6, 8, 9, 10, 15, 16, 23, 24, 25] [
                          ⟨(some 27), none, (.mv (.t 25))⟩,
                          ⟨(some 28), none, (.ixL 1 (.t 23) (.t 25))⟩,
                          ⟨(some 29), none, (.ld none (.t 28))⟩,
                          ⟨(some 9), none, (.mv (.t 27))⟩,
                          ⟨(some 10), none, (.mv (.t 29))⟩])
                        (.reg 10 none [2, 3, 5, 6, 8, 15, 16, 23, 24, 25] [
                          ⟨(some 30), none, (.mv (.t 8))⟩,
                          ⟨(some 31), none, (.mv (.t 9))⟩,
                          ⟨(some 32), none, (.fa 0 (.t 3))⟩,
                          ⟨(some 33), none, (.ld none (.t 32))⟩,
                          ⟨(some 34), none, (.mv (.t 9))⟩,
                          ⟨(some 35), none, (.ixL 1 (.t 33) (.t 34))⟩,
                          ⟨(some 36), none, (.ld none (.t 35))⟩,
                          ⟨(some 37), none, (.mv (.t 10))⟩,
                          ⟨(some 38), none, (.ixL 1 (.t 36) (.t 37))⟩,
                          ⟨(some 39), none, (.ld none (.t 38))⟩,
                          ⟨(some 40), none, (.ixL 1 (.t 30) (.t 31))⟩,
                          ⟨none, none, (.st 1 (.t 40) (.t 39))⟩])))
                      (.reg 11 none [2, 3, 5, 6, 8, 15, 16, 23, 24, 25] [
                        ⟨(some 41), none, (.bin .add false (.t 25) (.k (.v (.int .i64 1))))⟩,
                        ⟨(some 25), none, (.mv (.t 41))⟩])))))))
                (.seq
                 (.reg 12 none [2, 3, 5, 6, 8, 15, 16, 43] [
                   ⟨(some 42), none, (.mv (.t 8))⟩,
                   ⟨(some 43), none, (.call (.k (.clo F_slices_Contains_int [])) [(.t 42), (.k (.v (.int .i64 (-1))))])⟩])
                 (.cond (.t 43)
                  (.reg 13 none [2, 3, 5, 6, 15, 16] [
                    ⟨(some 44), none, (.mv (.t 6))⟩,
                    ⟨(some 45), none, (.bsl 1 1 [(.k (.v (.int .i64 (-1))))])⟩,
                    ⟨(some 46), none, (.app 1 8 false (.t 44) (.t 45))⟩,
                    ⟨(some 6), none, (.mv (.t 46))⟩])
                  (.reg 14 none [2, 3, 5, 6, 15, 16] [
                    ⟨(some 47), none, (.mv (.t 6))⟩,
                    ⟨(some 48), none, (.mv (.t 5))⟩,
                    ⟨(some 49), none, (.mv (.t 8))⟩,
                    ⟨(some 50), none, (.call (.k (.clo F_cells_number [])) [(.t 48), (.t 49)])⟩,
                    ⟨(some 51), none, (.bsl 1 1 [(.t 50)])⟩,
                    ⟨(some 52), none, (.app 1 8 false (.t 47) (.t 51))⟩,
                    ⟨(some 6), none, (.mv (.t 52))⟩])))))))
            (.reg 15 none [2, 3, 5, 6, 15, 16] [
              ⟨(some 53), none, (.bin .add false (.t 16) (.k (.v (.int .i64 1))))⟩,
              ⟨(some 16), none, (.mv (.t 53))⟩])))))))
      (.seq
       (.reg 16 none [4] [
         ⟨(some 54), none, (.mv (.t 6))⟩,
         ⟨(some 4), none, (.mv (.t 54))⟩])
       .ret)))))
theorem fn_cells_published : FnIR Try.prog F_cells_published 55 [(0, [2, 3]), (1, [2, 3, 5]), (2, [2, 3, 5, 6]), (3, [2, 3, 5, 6, 15, 16]), (4, [2, 3, 5, 6, 15, 16, 17]), (5, [2, 3, 5, 6, 7, 15, 16]), (6, [2, 3, 5, 6, 8, 15, 16]), (7, [2, 3, 5, 6, 8, 15, 16, 23, 24, 25]), (8, [2, 3, 5, 6, 8, 15, 16, 23, 24, 25, 26]), (9, [2, 3, 5, 6, 8, 9, 10, 15, 16, 23, 24, 25]), (10, [2, 3, 5, 6, 8, 15, 16, 23, 24, 25]), (11, [2, 3, 5, 6, 8, 15, 16, 23, 24, 25]), (12, [2, 3, 5, 6, 8, 15, 16, 43]), (13, [2, 3, 5, 6, 15, 16]), (14, [2, 3, 5, 6, 15, 16]), (15, [2, 3, 5, 6, 15, 16]), (16, [4])] ir_cells_published [(.tmp 4)] :=
  ⟨Try.f45, _, Try.func45, rfl, by kernel_rfl, rfl, by kernel_rfl, by kernel_rfl⟩

/-- dataenclave/cells.numbered -/
def ir_cells_numbered : RC :=
  (.seq
   (.reg 0 none [0] [
     ⟨(some 2), none, (.mv (.k (.v (.bool false))))⟩])
   (.seq
    (.reg 1 none [0, 3] [
      ⟨(some 3), none, (.mv (.k (.v (.int .i64 0))))⟩])
    (.seq
     (.seq
      (.reg 2 none [3, 6, 7, 8] [
        ⟨(some 6), none, (.mv (.t 0))⟩,
        ⟨(some 7), none, (.lenL (.t 6))⟩,
        ⟨(some 8), none, (.mv (.k (.v (.int .i64 0))))⟩])
      (.block 0
       (.loop
        (.seq
         (.reg 3 none [3, 6, 7, 8, 9] [
           ⟨(some 9), none, (.bin .lss false (.t 8) (.t 7))⟩])
         (.seq
          (.cond (.t 9)
           .skip
           (.exit 0))
          (.seq
           (.block 1
            (.seq
             (.reg 4 none [3, 5, 6, 7, 8] [
               ⟨(some 10), none, (.ixL 1 (.t 6) (.t 8))⟩,
               ⟨(some 11), none, (.ld none (.t 10))⟩,
               ⟨(some 5), none, (.mv (.t 11))⟩])
             (.seq
              (.seq
               (.reg 5 none [3, 5, 6, 7, 8, 18] [
                 ⟨(some 12), none, (.mv (.t 5))⟩,
                 ⟨(some 13), none, (.bin .lss false (.t 12) (.k (.v (.int .i64 (-1)))))⟩,
                 ⟨(some 14), none, (.mv (.t 13))⟩,
                 ⟨(some 15), (some (14, false)), (.mv (.t 5))⟩,
                 ⟨(some 16), (some (14, false)), (.mv (.t 3))⟩,
                 ⟨(some 17), (some (14, false)), (.bin .gtr false (.t 15) (.t 16))⟩,
                 ⟨(some 18), none, (.pick (.t 14) (.k (.v (.bool true))) (.t 17))⟩])
               (.cond (.t 18)
                (.seq
                 (.reg 6 none [2] [
                   ⟨(some 2), none, (.mv (.k (.v (.bool false))))⟩])
                 .ret)
                .skip))
              (.seq
               (.reg 7 none [3, 6, 7, 8, 21] [
                 ⟨(some 19), none, (.mv (.t 5))⟩,
                 ⟨(some 20), none, (.mv (.t 3))⟩,
                 ⟨(some 21), none, (.bin .eql false (.t 19) (.t 20))⟩])
               (.cond (.t 21)
                (.reg 8 none [3, 6, 7, 8] [
                  ⟨(some 22), none, (.mv (.t 3))⟩,
                  ⟨(some 23), none, (.bin .add false (.t 22) (.k (.v (.int .i64 1))))⟩,
                  ⟨(some 3), none, (.mv (.t 23))⟩])
                .skip)))))
           (.reg 9 none [3, 6, 7, 8] [
             ⟨(some 24), none, (.bin .add false (.t 8) (.k (.v (.int .i64 1))))⟩,
             ⟨(some 8), none, (.mv (.t 24))⟩])))))))
     (.seq
      (.reg 10 none [2] [
        ⟨(some 25), none, (.mv (.t 3))⟩,
        ⟨(some 26), none, (.bin .gtr false (.t 25) (.k (.v (.int .i64 0))))⟩,
        ⟨(some 2), none, (.mv (.t 26))⟩])
      .ret))))
theorem fn_cells_numbered : FnIR Try.prog F_cells_numbered 27 [(0, [0]), (1, [0, 3]), (2, [3, 6, 7, 8]), (3, [3, 6, 7, 8, 9]), (4, [3, 5, 6, 7, 8]), (5, [3, 5, 6, 7, 8, 18]), (6, [2]), (7, [3, 6, 7, 8, 21]), (8, [3, 6, 7, 8]), (9, [3, 6, 7, 8]), (10, [2])] ir_cells_numbered [(.tmp 2)] :=
  ⟨Try.f46, _, Try.func46, rfl, by kernel_rfl, rfl, by kernel_rfl, by kernel_rfl⟩

/-- slices.Max[[]int,int] -/
def ir_slices_Max_int : RC :=
  (.seq
   (.reg 0 none [0] [
     ⟨(some 2), none, (.mv (.k (.v (.int .i64 0))))⟩])
   (.seq
    (.seq
     (.reg 1 none [0, 7] [
       ⟨(some 5), none, (.mv (.t 0))⟩,
       ⟨(some 6), none, (.lenL (.t 5))⟩,
       ⟨(some 7), none, (.bin .lss false (.t 6) (.k (.v (.int .i64 1))))⟩])
     (.cond (.t 7)
      .stuck
      .skip))
    (.seq
     (.reg 3 none [0, 3] [
       ⟨(some 9), none, (.mv (.t 0))⟩,
       ⟨(some 10), none, (.ixL 1 (.t 9) (.k (.v (.int .i64 0))))⟩,
       ⟨(some 11), none, (.ld none (.t 10))⟩,
       ⟨(some 3), none, (.mv (.t 11))⟩])
     (.seq
      (.seq
       (.reg 4 none [0, 3, 4] [
         ⟨(some 4), none, (.mv (.k (.v (.int .i64 1))))⟩])
       (.block 0
        (.loop
         (.seq
          (.seq
           (.reg 5 none [0, 3, 4, 15] [
             ⟨(some 12), none, (.mv (.t 4))⟩,
             ⟨(some 13), none, (.mv (.t 0))⟩,
             ⟨(some 14), none, (.lenL (.t 13))⟩,
             ⟨(some 15), none, (.bin .lss false (.t 12) (.t 14))⟩])
           (.cond (.t 15)
            .skip
            (.exit 0)))
          (.seq
           (.block 1
            (.reg 7 none [0, 3, 4] [
              ⟨(some 18), none, (.mv (.t 3))⟩,
              ⟨(some 19), none, (.mv (.t 0))⟩,
              ⟨(some 20), none, (.mv (.t 4))⟩,
              ⟨(some 21), none, (.ixL 1 (.t 19) (.t 20))⟩,
              ⟨(some 22), none, (.ld none (.t 21))⟩,
              ⟨(some 23), none, (.mx [(.t 18), (.t 22)])⟩,
              ⟨(some 3), none, (.mv (.t 23))⟩]))
           (.reg 6 none [0, 3, 4] [
             ⟨(some 16), none, (.mv (.t 4))⟩,
             ⟨(some 17), none, (.bin .add false (.t 16) (.k (.v (.int .i64 1))))⟩,
             ⟨(some 4), none, (.mv (.t 17))⟩]))))))
      (.seq
       (.reg 8 none [2] [
         ⟨(some 24), none, (.mv (.t 3))⟩,
         ⟨(some 2), none, (.mv (.t 24))⟩])
       .ret)))))
theorem fn_slices_Max_int : FnIR Try.prog F_slices_Max_int 25 [(0, [0]), (1, [0, 7]), (3, [0, 3]), (4, [0, 3, 4]), (5, [0, 3, 4, 15]), (6, [0, 3, 4]), (7, [0, 3, 4]), (8, [2])] ir_slices_Max_int [(.tmp 2)] :=
  ⟨Try.f47, _, Try.func47, rfl, by kernel_rfl, rfl, by kernel_rfl, by kernel_rfl⟩

/-- dataenclave/cells.places -/
def ir_cells_places : RC :=
  (.seq
   (.reg 0 none [0, 1] [
     ⟨(some 4), none, (.mv (.k (.v (.slice none 0 0))))⟩])
   (.seq
    (.reg 1 none [0, 1, 5] [
      ⟨(some 7), none, (.mv (.t 0))⟩,
      ⟨(some 8), none, (.lenL (.t 7))⟩,
      ⟨(some 9), none, (.mk 1 8 (.v (.int .i64 0)) (.t 8) (.t 8))⟩,
      ⟨(some 5), none, (.mv (.t 9))⟩])
    (.seq
     (.seq
      (.reg 2 none [0, 1, 5, 6] [
        ⟨(some 10), none, (.mv (.t 0))⟩,
        ⟨(some 11), none, (.lenL (.t 10))⟩,
        ⟨(some 12), none, (.bin .sub false (.t 11) (.k (.v (.int .i64 1))))⟩,
        ⟨(some 6), none, (.mv (.t 12))⟩])
      (.block 0
       (.loop
        (.seq
         (.seq
          (.reg 3 none [0, 1, 5, 6, 14] [
            ⟨(some 13), none, (.mv (.t 6))⟩,
            ⟨(some 14), none, (.bin .geq false (.t 13) (.k (.v (.int .i64 0))))⟩])
          (.cond (.t 14)
           .skip
           (.exit 0)))
         (.seq
          (.block 1
           (.seq
            (.reg 5 none [0, 1, 5, 6] [
              ⟨(some 17), none, (.mv (.t 5))⟩,
              ⟨(some 18), none, (.mv (.t 6))⟩,
              ⟨(some 19), none, (.mv (.t 1))⟩,
              ⟨(some 20), none, (.mv (.t 0))⟩,
              ⟨(some 21), none, (.mv (.t 6))⟩,
              ⟨(some 22), none, (.ixL 1 (.t 20) (.t 21))⟩,
              ⟨(some 23), none, (.ld none (.t 22))⟩,
              ⟨(some 24), none, (.bin .rem false (.t 19) (.t 23))⟩,
              ⟨(some 25), none, (.ixL 1 (.t 17) (.t 18))⟩,
              ⟨none, none, (.st 1 (.t 25) (.t 24))⟩])
            (.reg 6 none [0, 1, 5, 6] [
              ⟨(some 26), none, (.mv (.t 1))⟩,
              ⟨(some 27), none, (.mv (.t 0))⟩,
              ⟨(some 28), none, (.mv (.t 6))⟩,
              ⟨(some 29), none, (.ixL 1 (.t 27) (.t 28))⟩,
              ⟨(some 30), none, (.ld none (.t 29))⟩,
              ⟨(some 31), none, (.bin .quo false (.t 26) (.t 30))⟩,
              ⟨(some 1), none, (.mv (.t 31))⟩])))
          (.reg 4 none [0, 1, 5, 6] [
            ⟨(some 15), none, (.mv (.t 6))⟩,
            ⟨(some 16), none, (.bin .sub false (.t 15) (.k (.v (.int .i64 1))))⟩,
            ⟨(some 6), none, (.mv (.t 16))⟩]))))))
     (.seq
      (.reg 7 none [4] [
        ⟨(some 32), none, (.mv (.t 5))⟩,
        ⟨(some 4), none, (.mv (.t 32))⟩])
      .ret))))
theorem fn_cells_places : FnIR Try.prog F_cells_places 33 [(0, [0, 1]), (1, [0, 1, 5]), (2, [0, 1, 5, 6]), (3, [0, 1, 5, 6, 14]), (4, [0, 1, 5, 6]), (5, [0, 1, 5, 6]), (6, [0, 1, 5, 6]), (7, [4])] ir_cells_places [(.tmp 4)] :=
  ⟨Try.f48, _, Try.func48, rfl, by kernel_rfl, rfl, by kernel_rfl, by kernel_rfl⟩

/-- slices.Contains[[]int,int] -/
def ir_slices_Contains_int : RC :=
  (.seq
   (.reg 0 none [0, 1] [
     ⟨(some 4), none, (.mv (.k (.v (.bool false))))⟩])
   (.seq
    (.reg 1 none [4] [
      ⟨(some 5), none, (.mv (.t 0))⟩,
      ⟨(some 6), none, (.mv (.t 1))⟩,
      ⟨(some 7), none, (.call (.k (.clo F_slices_Index_int [])) [(.t 5), (.t 6)])⟩,
      ⟨(some 8), none, (.bin .geq false (.t 7) (.k (.v (.int .i64 0))))⟩,
      ⟨(some 4), none, (.mv (.t 8))⟩])
    .ret))
theorem fn_slices_Contains_int : FnIR Try.prog F_slices_Contains_int 9 [(0, [0, 1]), (1, [4])] ir_slices_Contains_int [(.tmp 4)] :=
  ⟨Try.f49, _, Try.func49, rfl, by kernel_rfl, rfl, by kernel_rfl, by kernel_rfl⟩

/-- dataenclave/cells.number -/
def ir_cells_number : RC :=
  (.seq
   (.reg 0 none [0, 1] [
     ⟨(some 4), none, (.mv (.k (.v (.int .i64 0))))⟩])
   (.seq
    (.reg 1 none [0, 1, 5] [
      ⟨(some 5), none, (.mv (.k (.v (.int .i64 0))))⟩])
    (.seq
     (.seq
      (.reg 2 none [1, 5, 8, 9, 10] [
        ⟨(some 8), none, (.mv (.t 0))⟩,
        ⟨(some 9), none, (.lenL (.t 8))⟩,
        ⟨(some 10), none, (.mv (.k (.v (.int .i64 0))))⟩])
      (.block 0
       (.loop
        (.seq
         (.reg 3 none [1, 5, 8, 9, 10, 11] [
           ⟨(some 11), none, (.bin .lss false (.t 10) (.t 9))⟩])
         (.seq
          (.cond (.t 11)
           .skip
           (.exit 0))
          (.seq
           (.block 1
            (.seq
             (.reg 4 none [1, 5, 6, 7, 8, 9, 10] [
               ⟨(some 12), none, (.mv (.t 10))⟩,
               ⟨(some 13), none, (.ixL 1 (.t 8) (.t 10))⟩,
               ⟨(some 14), none, (.ld none (.t 13))⟩,
               ⟨(some 6), none, (.mv (.t 12))⟩,
               ⟨(some 7), none, (.mv (.t 14))⟩])
             (.reg 5 none [1, 5, 8, 9, 10] [
               ⟨(some 15), none, (.mv (.t 5))⟩,
               ⟨(some 16), none, (.mv (.t 7))⟩,
               ⟨(some 17), none, (.bin .mul false (.t 15) (.t 16))⟩,
               ⟨(some 18), none, (.mv (.t 1))⟩,
               ⟨(some 19), none, (.mv (.t 6))⟩,
               ⟨(some 20), none, (.ixL 1 (.t 18) (.t 19))⟩,
               ⟨(some 21), none, (.ld none (.t 20))⟩,
               ⟨(some 22), none, (.bin .add false (.t 17) (.t 21))⟩,
               ⟨(some 5), none, (.mv (.t 22))⟩])))
           (.reg 6 none [1, 5, 8, 9, 10] [
             ⟨(some 23), none, (.bin .add false (.t 10) (.k (.v (.int .i64 1))))⟩,
             ⟨(some 10), none, (.mv (.t 23))⟩])))))))
     (.seq
      (.reg 7 none [4] [
        ⟨(some 24), none, (.mv (.t 5))⟩,
        ⟨(some 4), none, (.mv (.t 24))⟩])
      .ret))))
theorem fn_cells_number : FnIR Try.prog F_cells_number 25 [(0, [0, 1]), (1, [0, 1, 5]), (2, [1, 5, 8, 9, 10]), (3, [1, 5, 8, 9, 10, 11]), (4, [1, 5, 6, 7, 8, 9, 10]), (5, [1, 5, 8, 9, 10]), (6, [1, 5, 8, 9, 10]), (7, [4])] ir_cells_number [(.tmp 4)] :=
  ⟨Try.f50, _, Try.func50, rfl, by kernel_rfl, rfl, by kernel_rfl, by kernel_rfl⟩

/-- slices.Index[[]int,int] -/
def ir_slices_Index_int : RC :=
  (.seq
   (.reg 0 none [0, 1] [
     ⟨(some 4), none, (.mv (.k (.v (.int .i64 0))))⟩])
   (.seq
    (.seq
     (.reg 1 none [0, 1, 7, 8] [
       ⟨(some 6), none, (.mv (.t 0))⟩,
       ⟨(some 7), none, (.lenL (.t 6))⟩,
       ⟨(some 8), none, (.mv (.k (.v (.int .i64 0))))⟩])
     (.block 0
      (.loop
       (.seq
        (.reg 2 none [0, 1, 7, 8, 9] [
          ⟨(some 9), none, (.bin .lss false (.t 8) (.t 7))⟩])
        (.seq
         (.cond (.t 9)
          .skip
          (.exit 0))
         (.seq
          (.block 1
           (.seq
            (.reg 3 none [0, 1, 5, 7, 8] [
              ⟨(some 10), none, (.mv (.t 8))⟩,
              ⟨(some 5), none, (.mv (.t 10))⟩])
            (.seq
             (.reg 4 none [0, 1, 5, 7, 8, 16] [
               ⟨(some 11), none, (.mv (.t 1))⟩,
               ⟨(some 12), none, (.mv (.t 0))⟩,
               ⟨(some 13), none, (.mv (.t 5))⟩,
               ⟨(some 14), none, (.ixL 1 (.t 12) (.t 13))⟩,
               ⟨(some 15), none, (.ld none (.t 14))⟩,
               ⟨(some 16), none, (.bin .eql false (.t 11) (.t 15))⟩])
             (.cond (.t 16)
              (.seq
               (.reg 5 none [4] [
                 ⟨(some 17), none, (.mv (.t 5))⟩,
                 ⟨(some 4), none, (.mv (.t 17))⟩])
               .ret)
              .skip))))
          (.reg 6 none [0, 1, 7, 8] [
            ⟨(some 18), none, (.bin .add false (.t 8) (.k (.v (.int .i64 1))))⟩,
            ⟨(some 8), none, (.mv (.t 18))⟩])))))))
    (.seq
     (.reg 7 none [4] [
       ⟨(some 4), none, (.mv (.k (.v (.int .i64 (-1)))))⟩])
     .ret)))
theorem fn_slices_Index_int : FnIR Try.prog F_slices_Index_int 19 [(0, [0, 1]), (1, [0, 1, 7, 8]), (2, [0, 1, 7, 8, 9]), (3, [0, 1, 5, 7, 8]), (4, [0, 1, 5, 7, 8, 16]), (5, [4]), (6, [0, 1, 7, 8]), (7, [4])] ir_slices_Index_int [(.tmp 4)] :=
  ⟨Try.f51, _, Try.func51, rfl, by kernel_rfl, rfl, by kernel_rfl, by kernel_rfl⟩

end Go.Proofs

