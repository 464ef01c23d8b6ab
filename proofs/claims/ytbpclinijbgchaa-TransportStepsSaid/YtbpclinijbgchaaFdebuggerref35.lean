/- The functions of package debuggerref35 as the code of the abstract machine. Written by a program of the session. -/
import Derived.Test.YtbpclinijbgchaaFn
namespace Go.Proofs.Ytbpclinijbgchaa
open Go Go.Abs
set_option maxRecDepth 100000
/-! ### debugger/debuggerref35.Poll -/
abbrev debuggerref35_Poll.r0 : List Ins := [⟨some 2, none, .op .box [.tmp 0]⟩,
  ⟨some 4, none, .op (.alloc [(.int .i64 0), (.int .i64 0), (.int .i64 0), (.int .i64 0), (.int .i64 0), (.int .i64 0), (.lst 0 true []), (.bool false)]) []⟩,
  ⟨some 5, none, .op .id [.val (.t (.lst 0 true []))]⟩]
abbrev debuggerref35_Poll.r1 : List Ins := [⟨some 6, none, .op .id [.val (.t (.lst 0 true []))]⟩]
abbrev debuggerref35_Poll.r2 : List Ins := [⟨some 7, none, .op (.fieldA 1) [.tmp 2]⟩,
  ⟨some 8, none, .op .load1 [.tmp 7]⟩,
  ⟨some 9, none, .op (.bin .eql) [.tmp 8, .val (.t (.int .i64 0))]⟩]
abbrev debuggerref35_Poll.r3 : List Ins := [⟨some 10, none, .op .id [.tmp 1]⟩,
  ⟨some 11, none, .op (.fieldA 5) [.tmp 2]⟩,
  ⟨some 12, none, .op .load1 [.tmp 11]⟩,
  ⟨some 13, none, .op (.bin .geq) [.tmp 10, .tmp 12]⟩]
abbrev debuggerref35_Poll.r4 : List Ins := [⟨some 14, none, .op .id [.tmp 6]⟩,
  ⟨some 15, none, .op (.fieldA 0) [.tmp 2]⟩,
  ⟨some 16, none, .op .load1 [.tmp 15]⟩,
  ⟨some 17, none, .op (.build [(.int .i64 0), (.int .i64 0), (.int .i64 0), (.int .i64 0), (.int .i64 0), (.lst 0 true [])] [(0, 1), (1, 1)]) [.val (.t (.int .i64 1)), .tmp 16]⟩,
  ⟨some 18, none, .call N.debuggerref35_send [.tmp 14, .tmp 17]⟩,
  ⟨some 6, none, .op .id [.tmp 18]⟩]
abbrev debuggerref35_Poll.r5 : List Ins := [⟨some 19, none, .op .id [.tmp 1]⟩,
  ⟨some 20, none, .op (.bin .add) [.tmp 19, .val (.t (.int .i64 8))]⟩,
  ⟨some 21, none, .op (.fieldA 5) [.tmp 2]⟩,
  ⟨none, none, .op (.store 1) [.tmp 21, .tmp 20]⟩]
abbrev debuggerref35_Poll.r6 : List Ins := [⟨some 22, none, .op (.fieldA 3) [.tmp 2]⟩,
  ⟨some 23, none, .op .load1 [.tmp 22]⟩,
  ⟨some 24, none, .op (.fieldA 2) [.tmp 2]⟩,
  ⟨some 25, none, .op .load1 [.tmp 24]⟩,
  ⟨some 26, none, .op (.bin .gtr) [.tmp 23, .tmp 25]⟩,
  ⟨some 27, none, .op .id [.tmp 26]⟩,
  ⟨some 28, some (27, true), .op .id [.tmp 1]⟩,
  ⟨some 29, some (27, true), .op (.fieldA 5) [.tmp 2]⟩,
  ⟨some 30, some (27, true), .op .load1 [.tmp 29]⟩,
  ⟨some 31, some (27, true), .op (.bin .geq) [.tmp 28, .tmp 30]⟩,
  ⟨some 32, none, .op .pick [.tmp 27, .tmp 31, .val (.t (.bool false))]⟩]
abbrev debuggerref35_Poll.r7 : List Ins := [⟨some 33, none, .op (.fieldA 2) [.tmp 2]⟩,
  ⟨some 34, none, .op .load1 [.tmp 33]⟩,
  ⟨some 35, none, .op (.fieldA 3) [.tmp 2]⟩,
  ⟨none, none, .op (.store 1) [.tmp 35, .tmp 34]⟩]
abbrev debuggerref35_Poll.r8 : List Ins := [⟨some 36, none, .op (.fieldA 3) [.tmp 2]⟩,
  ⟨some 37, none, .op .load1 [.tmp 36]⟩,
  ⟨some 38, none, .op (.fieldA 2) [.tmp 2]⟩,
  ⟨some 39, none, .op .load1 [.tmp 38]⟩,
  ⟨some 40, none, .op (.bin .add) [.tmp 39, .val (.t (.int .i64 4))]⟩,
  ⟨some 41, none, .op (.bin .lss) [.tmp 37, .tmp 40]⟩,
  ⟨some 42, none, .op .id [.tmp 41]⟩,
  ⟨some 43, some (42, true), .op (.fieldA 3) [.tmp 2]⟩,
  ⟨some 44, some (42, true), .op .load1 [.tmp 43]⟩,
  ⟨some 45, some (42, true), .op (.fieldA 2) [.tmp 2]⟩,
  ⟨some 46, some (42, true), .op .load1 [.tmp 45]⟩,
  ⟨some 47, some (42, true), .op (.fieldA 6) [.tmp 2]⟩,
  ⟨some 48, some (42, true), .op .load1 [.tmp 47]⟩,
  ⟨some 49, some (42, true), .op .len [.tmp 48]⟩,
  ⟨some 50, some (42, true), .op (.bin .add) [.tmp 46, .tmp 49]⟩,
  ⟨some 51, some (42, true), .op (.bin .lss) [.tmp 44, .tmp 50]⟩,
  ⟨some 52, none, .op .pick [.tmp 42, .tmp 51, .val (.t (.bool false))]⟩]
abbrev debuggerref35_Poll.r9 : List Ins := [⟨some 53, none, .op (.fieldA 3) [.tmp 2]⟩,
  ⟨some 54, none, .op .load1 [.tmp 53]⟩,
  ⟨some 55, none, .op (.bin .add) [.tmp 54, .val (.t (.int .i64 1))]⟩,
  ⟨some 56, none, .op (.fieldA 3) [.tmp 2]⟩,
  ⟨none, none, .op (.store 1) [.tmp 56, .tmp 55]⟩]
abbrev debuggerref35_Poll.d0 : Plan := (.val ⟨some 57, none, .op .id [.tmp 6]⟩
  (.val ⟨some 58, none, .op (.fieldA 0) [.tmp 2]⟩
  (.val ⟨some 59, none, .op .load1 [.tmp 58]⟩
  (.val ⟨some 60, none, .op (.fieldA 1) [.tmp 2]⟩
  (.val ⟨some 61, none, .op .load1 [.tmp 60]⟩
  (.val ⟨some 62, none, .op (.fieldA 3) [.tmp 2]⟩
  (.val ⟨some 63, none, .op .load1 [.tmp 62]⟩
  (.val ⟨some 64, none, .op (.fieldA 4) [.tmp 2]⟩
  (.val ⟨some 65, none, .op .load1 [.tmp 64]⟩
  (.val ⟨some 66, none, .op (.fieldA 6) [.tmp 2]⟩
  (.val ⟨some 67, none, .op .load1 [.tmp 66]⟩
  (.val ⟨some 68, none, .op (.fieldA 3) [.tmp 2]⟩
  (.val ⟨some 69, none, .op .load1 [.tmp 68]⟩
  (.val ⟨some 70, none, .op (.fieldA 2) [.tmp 2]⟩
  (.val ⟨some 71, none, .op .load1 [.tmp 70]⟩
  (.val ⟨some 72, none, .op (.bin .sub) [.tmp 69, .tmp 71]⟩
  (.val ⟨some 73, none, .op (.bin .sub) [.tmp 72, .val (.t (.int .i64 1))]⟩
  (.val ⟨some 74, none, .op (.idxS 1) [.tmp 67, .tmp 73]⟩
  (.val ⟨some 75, none, .op .load1 [.tmp 74]⟩
  (.val ⟨some 76, none, .op (.build [(.int .i64 0), (.int .i64 0), (.int .i64 0), (.int .i64 0), (.int .i64 0), (.lst 0 true [])] [(0, 1), (1, 1), (2, 1), (3, 1), (4, 1), (5, 1)]) [.val (.t (.int .i64 2)), .tmp 59, .tmp 61, .tmp 63, .tmp 65, .tmp 75]⟩
  (.eff ⟨some 77, none, .call N.debuggerref35_send [.tmp 57, .tmp 76]⟩ []
  (.eff ⟨some 6, none, .op .id [.tmp 77]⟩ []
  .fin))))))))))))))))))))))
abbrev debuggerref35_Poll.r10 : List Ins := [⟨some 78, none, .op .id [.tmp 1]⟩,
  ⟨some 79, none, .op (.bin .add) [.tmp 78, .val (.t (.int .i64 8))]⟩,
  ⟨some 80, none, .op (.fieldA 5) [.tmp 2]⟩,
  ⟨none, none, .op (.store 1) [.tmp 80, .tmp 79]⟩]
abbrev debuggerref35_Poll.l0 : Cd := (.seq (.seq (.rgn debuggerref35_Poll.r8) (.cond (.tmp 52) .skip (.exit 0))) (.block 1 (.seq (.rgn debuggerref35_Poll.r9) (.seq (.rgnD debuggerref35_Poll.d0) (.rgn debuggerref35_Poll.r10)))))
abbrev debuggerref35_Poll.r11 : List Ins := [⟨some 81, none, .op .id [.tmp 6]⟩,
  ⟨some 82, none, .op .len [.tmp 81]⟩,
  ⟨some 83, none, .op (.bin .eql) [.tmp 82, .val (.t (.int .i64 0))]⟩,
  ⟨some 84, none, .op .id [.tmp 83]⟩,
  ⟨some 85, some (84, true), .op (.fieldA 7) [.tmp 2]⟩,
  ⟨some 86, some (84, true), .op .load1 [.tmp 85]⟩,
  ⟨some 87, none, .op .pick [.tmp 84, .tmp 86, .val (.t (.bool false))]⟩]
abbrev debuggerref35_Poll.r12 : List Ins := [⟨some 88, none, .op .id [.tmp 6]⟩,
  ⟨some 89, none, .op (.fieldA 0) [.tmp 2]⟩,
  ⟨some 90, none, .op .load1 [.tmp 89]⟩,
  ⟨some 91, none, .op (.fieldA 1) [.tmp 2]⟩,
  ⟨some 92, none, .op .load1 [.tmp 91]⟩,
  ⟨some 93, none, .op (.fieldA 4) [.tmp 2]⟩,
  ⟨some 94, none, .op .load1 [.tmp 93]⟩,
  ⟨some 95, none, .op (.build [(.int .i64 0), (.int .i64 0), (.int .i64 0), (.int .i64 0), (.int .i64 0), (.lst 0 true [])] [(0, 1), (1, 1), (2, 1), (4, 1)]) [.val (.t (.int .i64 3)), .tmp 90, .tmp 92, .tmp 94]⟩,
  ⟨some 96, none, .call N.debuggerref35_send [.tmp 88, .tmp 95]⟩,
  ⟨some 6, none, .op .id [.tmp 96]⟩]
abbrev debuggerref35_Poll.r13 : List Ins := [⟨some 97, none, .op .id [.tmp 6]⟩,
  ⟨some 98, none, .op .len [.tmp 97]⟩,
  ⟨some 99, none, .op (.bin .gtr) [.tmp 98, .val (.t (.int .i64 0))]⟩]
abbrev debuggerref35_Poll.r14 : List Ins := [⟨some 100, none, .op (.fieldA 7) [.tmp 2]⟩,
  ⟨none, none, .op (.store 1) [.tmp 100, .val (.t (.bool false))]⟩]
abbrev debuggerref35_Poll.r15 : List Ins := [⟨some 101, none, .op (.loadN 8) [.tmp 2]⟩,
  ⟨some 102, none, .op .id [.tmp 6]⟩,
  ⟨none, none, .op (.store 8) [.tmp 4, .tmp 101]⟩,
  ⟨some 5, none, .op .id [.tmp 102]⟩]
abbrev debuggerref35_Poll.body : Cd := (.seq (.rgn debuggerref35_Poll.r0) (.seq (.rgn debuggerref35_Poll.r1) (.seq (.seq (.rgn debuggerref35_Poll.r2) (.cond (.tmp 9) (.seq (.rgn debuggerref35_Poll.r3) (.cond (.tmp 13) (.seq (.rgn debuggerref35_Poll.r4) (.rgn debuggerref35_Poll.r5)) .skip)) (.seq (.seq (.rgn debuggerref35_Poll.r6) (.cond (.tmp 32) (.rgn debuggerref35_Poll.r7) .skip)) (.seq (.block 0 (.loop debuggerref35_Poll.l0)) (.seq (.rgn debuggerref35_Poll.r11) (.cond (.tmp 87) (.rgn debuggerref35_Poll.r12) .skip)))))) (.seq (.seq (.rgn debuggerref35_Poll.r13) (.cond (.tmp 99) (.rgn debuggerref35_Poll.r14) .skip)) (.seq (.rgn debuggerref35_Poll.r15) .ret)))))
def debuggerref35_Poll.af : AF := ⟨2, 103, [.cell 4 8 false, .tmp 5], debuggerref35_Poll.body⟩
theorem debuggerref35_Poll.ok : cFunc PP [] Try.f14 = some debuggerref35_Poll.af := by kernel_rfl
theorem debuggerref35_Poll.intro {args : List V} {H : Heap} {Q : V → Heap → Prop} (hlen : args.length ≤ 103) (h : wpC (SCall PP) H.length debuggerref35_Poll.body (exitK H.length [.cell 4 8 false, .tmp 5] Q) ⟨initVs 0 args, H⟩) : SCall PP N.debuggerref35_Poll args H Q :=
  SCall.intro Try.func14 (by kernel_rfl) debuggerref35_Poll.ok hlen h
/-! ### debugger/debuggerref35.Receive -/
abbrev debuggerref35_Receive.r0 : List Ins := [⟨some 2, none, .op .box [.tmp 0]⟩,
  ⟨some 4, none, .op (.alloc [(.int .i64 0), (.int .i64 0), (.int .i64 0), (.int .i64 0), (.int .i64 0), (.int .i64 0), (.lst 0 true []), (.bool false)]) []⟩,
  ⟨some 5, none, .op .id [.val (.t (.lst 0 true []))]⟩,
  ⟨some 6, none, .op .id [.val (.t (.bool false))]⟩]
abbrev debuggerref35_Receive.r1 : List Ins := [⟨some 13, none, .op .id [.tmp 1]⟩,
  ⟨some 14, none, .call N.debuggerref33_Decode [.tmp 13]⟩,
  ⟨some 12, none, .op .id [.tmp 14]⟩,
  ⟨some 15, none, .op (.extract 0) [.tmp 12]⟩,
  ⟨some 16, none, .op (.extract 1) [.tmp 12]⟩,
  ⟨some 7, none, .op (.alloc [(.int .i64 0), (.int .i64 0), (.int .i64 0), (.int .i64 0), (.int .i64 0), (.lst 0 true [])]) []⟩,
  ⟨none, none, .op (.store 6) [.tmp 7, .tmp 15]⟩,
  ⟨some 8, none, .op .id [.tmp 16]⟩]
abbrev debuggerref35_Receive.r2 : List Ins := [⟨some 17, none, .op .id [.tmp 8]⟩,
  ⟨some 18, none, .op (.bin .neq) [.tmp 17, .val (.t (.int .i64 0))]⟩,
  ⟨some 19, none, .op .id [.tmp 18]⟩,
  ⟨some 20, some (19, false), .op (.fieldA 1) [.tmp 7]⟩,
  ⟨some 21, some (19, false), .op .load1 [.tmp 20]⟩,
  ⟨some 22, some (19, false), .op (.fieldA 1) [.tmp 2]⟩,
  ⟨some 23, some (19, false), .op .load1 [.tmp 22]⟩,
  ⟨some 24, some (19, false), .op (.bin .lss) [.tmp 21, .tmp 23]⟩,
  ⟨some 25, none, .op .pick [.tmp 19, .val (.t (.bool true)), .tmp 24]⟩]
abbrev debuggerref35_Receive.r3 : List Ins := [⟨some 26, none, .op (.loadN 8) [.tmp 2]⟩,
  ⟨none, none, .op (.store 8) [.tmp 4, .tmp 26]⟩,
  ⟨some 5, none, .op .id [.val (.t (.lst 0 true []))]⟩,
  ⟨some 6, none, .op .id [.val (.t (.bool false))]⟩]
abbrev debuggerref35_Receive.r4 : List Ins := [⟨some 9, none, .op .id [.val (.t (.bool false))]⟩]
abbrev debuggerref35_Receive.r5 : List Ins := [⟨some 27, none, .op (.fieldA 1) [.tmp 7]⟩,
  ⟨some 28, none, .op .load1 [.tmp 27]⟩,
  ⟨some 29, none, .op (.fieldA 1) [.tmp 2]⟩,
  ⟨some 30, none, .op .load1 [.tmp 29]⟩,
  ⟨some 31, none, .op (.bin .gtr) [.tmp 28, .tmp 30]⟩]
abbrev debuggerref35_Receive.r6 : List Ins := [⟨some 32, none, .op (.fieldA 1) [.tmp 2]⟩,
  ⟨some 33, none, .op .load1 [.tmp 32]⟩,
  ⟨some 34, none, .op (.bin .neq) [.tmp 33, .val (.t (.int .i64 0))]⟩]
abbrev debuggerref35_Receive.r7 : List Ins := [⟨some 9, none, .op .id [.val (.t (.bool true))]⟩]
abbrev debuggerref35_Receive.r8 : List Ins := [⟨some 35, none, .op (.fieldA 6) [.tmp 2]⟩,
  ⟨none, none, .op (.store 1) [.tmp 35, .val (.t (.lst 0 true []))]⟩]
abbrev debuggerref35_Receive.r9 : List Ins := [⟨some 36, none, .op (.fieldA 1) [.tmp 7]⟩,
  ⟨some 37, none, .op .load1 [.tmp 36]⟩,
  ⟨some 38, none, .op (.fieldA 1) [.tmp 2]⟩,
  ⟨none, none, .op (.store 1) [.tmp 38, .tmp 37]⟩,
  ⟨some 39, none, .op (.fieldA 2) [.tmp 2]⟩,
  ⟨none, none, .op (.store 1) [.tmp 39, .val (.t (.int .i64 0))]⟩,
  ⟨some 40, none, .op (.fieldA 3) [.tmp 2]⟩,
  ⟨none, none, .op (.store 1) [.tmp 40, .val (.t (.int .i64 0))]⟩,
  ⟨some 41, none, .op (.fieldA 4) [.tmp 2]⟩,
  ⟨none, none, .op (.store 1) [.tmp 41, .val (.t (.int .i64 0))]⟩,
  ⟨some 42, none, .op (.fieldA 5) [.tmp 2]⟩,
  ⟨none, none, .op (.store 1) [.tmp 42, .val (.t (.int .i64 0))]⟩]
abbrev debuggerref35_Receive.r10 : List Ins := [⟨some 43, none, .op (.fieldA 2) [.tmp 7]⟩,
  ⟨some 44, none, .op .load1 [.tmp 43]⟩,
  ⟨some 45, none, .op (.fieldA 0) [.tmp 2]⟩,
  ⟨some 46, none, .op .load1 [.tmp 45]⟩,
  ⟨some 47, none, .op (.bin .neq) [.tmp 44, .tmp 46]⟩]
abbrev debuggerref35_Receive.r11 : List Ins := [⟨some 48, none, .op (.fieldA 7) [.tmp 2]⟩,
  ⟨none, none, .op (.store 1) [.tmp 48, .val (.t (.bool true))]⟩]
abbrev debuggerref35_Receive.r12 : List Ins := [⟨some 49, none, .op (.loadN 8) [.tmp 2]⟩,
  ⟨some 50, none, .op .id [.tmp 9]⟩,
  ⟨none, none, .op (.store 8) [.tmp 4, .tmp 49]⟩,
  ⟨some 5, none, .op .id [.val (.t (.lst 0 true []))]⟩,
  ⟨some 6, none, .op .id [.tmp 50]⟩]
abbrev debuggerref35_Receive.r13 : List Ins := [⟨some 51, none, .op (.fieldA 6) [.tmp 2]⟩,
  ⟨some 52, none, .op .load1 [.tmp 51]⟩,
  ⟨some 53, none, .op .len [.tmp 52]⟩,
  ⟨some 10, none, .op .id [.tmp 53]⟩]
abbrev debuggerref35_Receive.r14 : List Ins := [⟨some 54, none, .op (.fieldA 4) [.tmp 7]⟩,
  ⟨some 55, none, .op .load1 [.tmp 54]⟩,
  ⟨some 56, none, .op (.fieldA 2) [.tmp 2]⟩,
  ⟨some 57, none, .op .load1 [.tmp 56]⟩,
  ⟨some 58, none, .op (.bin .gtr) [.tmp 55, .tmp 57]⟩,
  ⟨some 59, none, .op .id [.tmp 58]⟩,
  ⟨some 60, some (59, true), .op (.fieldA 4) [.tmp 7]⟩,
  ⟨some 61, some (59, true), .op .load1 [.tmp 60]⟩,
  ⟨some 62, some (59, true), .op (.fieldA 2) [.tmp 2]⟩,
  ⟨some 63, some (59, true), .op .load1 [.tmp 62]⟩,
  ⟨some 64, some (59, true), .op .id [.tmp 10]⟩,
  ⟨some 65, some (59, true), .op (.bin .add) [.tmp 63, .tmp 64]⟩,
  ⟨some 66, some (59, true), .op (.bin .leq) [.tmp 61, .tmp 65]⟩,
  ⟨some 67, none, .op .pick [.tmp 59, .tmp 66, .val (.t (.bool false))]⟩]
abbrev debuggerref35_Receive.r15 : List Ins := [⟨some 68, none, .op (.buildSlice 1 (.lst 0 true []) 0 []) []⟩,
  ⟨some 69, none, .op (.fieldA 6) [.tmp 2]⟩,
  ⟨some 70, none, .op .load1 [.tmp 69]⟩,
  ⟨some 71, none, .op (.fieldA 4) [.tmp 7]⟩,
  ⟨some 72, none, .op .load1 [.tmp 71]⟩,
  ⟨some 73, none, .op (.fieldA 2) [.tmp 2]⟩,
  ⟨some 74, none, .op .load1 [.tmp 73]⟩,
  ⟨some 75, none, .op (.bin .sub) [.tmp 72, .tmp 74]⟩,
  ⟨some 76, none, .op (.slice 1 true false) [.tmp 70, .tmp 75]⟩,
  ⟨some 77, none, .op (.append 1 24) [.tmp 68, .tmp 76]⟩,
  ⟨some 78, none, .op (.fieldA 6) [.tmp 2]⟩,
  ⟨none, none, .op (.store 1) [.tmp 78, .tmp 77]⟩]
abbrev debuggerref35_Receive.r16 : List Ins := [⟨some 79, none, .op (.fieldA 4) [.tmp 7]⟩,
  ⟨some 80, none, .op .load1 [.tmp 79]⟩,
  ⟨some 81, none, .op (.fieldA 2) [.tmp 2]⟩,
  ⟨none, none, .op (.store 1) [.tmp 81, .tmp 80]⟩]
abbrev debuggerref35_Receive.r17 : List Ins := [⟨some 82, none, .op (.fieldA 3) [.tmp 2]⟩,
  ⟨some 83, none, .op .load1 [.tmp 82]⟩,
  ⟨some 84, none, .op (.fieldA 2) [.tmp 2]⟩,
  ⟨some 85, none, .op .load1 [.tmp 84]⟩,
  ⟨some 86, none, .op .max2 [.tmp 83, .tmp 85]⟩,
  ⟨some 87, none, .op (.fieldA 3) [.tmp 2]⟩,
  ⟨none, none, .op (.store 1) [.tmp 87, .tmp 86]⟩]
abbrev debuggerref35_Receive.r18 : List Ins := [⟨some 11, none, .op .id [.val (.t (.lst 0 true []))]⟩]
abbrev debuggerref35_Receive.r19 : List Ins := [⟨some 88, none, .op (.fieldA 0) [.tmp 7]⟩,
  ⟨some 89, none, .op .load1 [.tmp 88]⟩,
  ⟨some 90, none, .op (.bin .eql) [.tmp 89, .val (.t (.int .i64 2))]⟩]
abbrev debuggerref35_Receive.r20 : List Ins := [⟨some 91, none, .op (.fieldA 3) [.tmp 7]⟩,
  ⟨some 92, none, .op .load1 [.tmp 91]⟩,
  ⟨some 93, none, .op (.fieldA 4) [.tmp 2]⟩,
  ⟨some 94, none, .op .load1 [.tmp 93]⟩,
  ⟨some 95, none, .op (.bin .add) [.tmp 94, .val (.t (.int .i64 1))]⟩,
  ⟨some 96, none, .op (.bin .eql) [.tmp 92, .tmp 95]⟩]
abbrev debuggerref35_Receive.r21 : List Ins := [⟨some 97, none, .op .id [.tmp 11]⟩,
  ⟨some 98, none, .op (.fieldA 5) [.tmp 7]⟩,
  ⟨some 99, none, .op .load1 [.tmp 98]⟩,
  ⟨some 100, none, .op (.buildSlice 1 (.lst 0 true []) 1 [0]) [.tmp 99]⟩,
  ⟨some 101, none, .op (.append 1 24) [.tmp 97, .tmp 100]⟩,
  ⟨some 11, none, .op .id [.tmp 101]⟩]
abbrev debuggerref35_Receive.r22 : List Ins := [⟨some 102, none, .op (.fieldA 4) [.tmp 2]⟩,
  ⟨some 103, none, .op .load1 [.tmp 102]⟩,
  ⟨some 104, none, .op (.bin .add) [.tmp 103, .val (.t (.int .i64 1))]⟩,
  ⟨some 105, none, .op (.fieldA 4) [.tmp 2]⟩,
  ⟨none, none, .op (.store 1) [.tmp 105, .tmp 104]⟩]
abbrev debuggerref35_Receive.r23 : List Ins := [⟨some 106, none, .op (.fieldA 7) [.tmp 2]⟩,
  ⟨none, none, .op (.store 1) [.tmp 106, .val (.t (.bool true))]⟩]
abbrev debuggerref35_Receive.r24 : List Ins := [⟨some 107, none, .op (.fieldA 0) [.tmp 7]⟩,
  ⟨some 108, none, .op .load1 [.tmp 107]⟩,
  ⟨some 109, none, .op (.bin .eql) [.tmp 108, .val (.t (.int .i64 1))]⟩]
abbrev debuggerref35_Receive.r25 : List Ins := [⟨some 110, none, .op (.fieldA 7) [.tmp 2]⟩,
  ⟨none, none, .op (.store 1) [.tmp 110, .val (.t (.bool true))]⟩]
abbrev debuggerref35_Receive.r26 : List Ins := [⟨some 111, none, .op (.loadN 8) [.tmp 2]⟩,
  ⟨some 112, none, .op .id [.tmp 11]⟩,
  ⟨some 113, none, .op .id [.tmp 9]⟩,
  ⟨none, none, .op (.store 8) [.tmp 4, .tmp 111]⟩,
  ⟨some 5, none, .op .id [.tmp 112]⟩,
  ⟨some 6, none, .op .id [.tmp 113]⟩]
abbrev debuggerref35_Receive.body : Cd := (.seq (.rgn debuggerref35_Receive.r0) (.seq (.rgn debuggerref35_Receive.r1) (.seq (.seq (.rgn debuggerref35_Receive.r2) (.cond (.tmp 25) (.seq (.rgn debuggerref35_Receive.r3) .ret) .skip)) (.seq (.rgn debuggerref35_Receive.r4) (.seq (.seq (.rgn debuggerref35_Receive.r5) (.cond (.tmp 31) (.seq (.seq (.rgn debuggerref35_Receive.r6) (.cond (.tmp 34) (.seq (.rgn debuggerref35_Receive.r7) (.rgn debuggerref35_Receive.r8)) .skip)) (.rgn debuggerref35_Receive.r9)) .skip)) (.seq (.seq (.rgn debuggerref35_Receive.r10) (.cond (.tmp 47) (.seq (.rgn debuggerref35_Receive.r11) (.seq (.rgn debuggerref35_Receive.r12) .ret)) .skip)) (.seq (.seq (.rgn debuggerref35_Receive.r13) (.seq (.rgn debuggerref35_Receive.r14) (.cond (.tmp 67) (.seq (.rgn debuggerref35_Receive.r15) (.seq (.rgn debuggerref35_Receive.r16) (.rgn debuggerref35_Receive.r17))) .skip))) (.seq (.rgn debuggerref35_Receive.r18) (.seq (.seq (.rgn debuggerref35_Receive.r19) (.cond (.tmp 90) (.seq (.seq (.rgn debuggerref35_Receive.r20) (.cond (.tmp 96) (.seq (.rgn debuggerref35_Receive.r21) (.rgn debuggerref35_Receive.r22)) .skip)) (.rgn debuggerref35_Receive.r23)) .skip)) (.seq (.seq (.rgn debuggerref35_Receive.r24) (.cond (.tmp 109) (.rgn debuggerref35_Receive.r25) .skip)) (.seq (.rgn debuggerref35_Receive.r26) .ret)))))))))))
def debuggerref35_Receive.af : AF := ⟨2, 114, [.cell 4 8 false, .tmp 5, .tmp 6], debuggerref35_Receive.body⟩
theorem debuggerref35_Receive.ok : cFunc PP [] Try.f19 = some debuggerref35_Receive.af := by kernel_rfl
theorem debuggerref35_Receive.intro {args : List V} {H : Heap} {Q : V → Heap → Prop} (hlen : args.length ≤ 114) (h : wpC (SCall PP) H.length debuggerref35_Receive.body (exitK H.length [.cell 4 8 false, .tmp 5, .tmp 6] Q) ⟨initVs 0 args, H⟩) : SCall PP N.debuggerref35_Receive args H Q :=
  SCall.intro Try.func19 (by kernel_rfl) debuggerref35_Receive.ok hlen h
/-! ### debugger/debuggerref35.New -/
abbrev debuggerref35_New.r0 : List Ins := [⟨some 2, none, .op (.alloc [(.int .i64 0), (.int .i64 0), (.int .i64 0), (.int .i64 0), (.int .i64 0), (.int .i64 0), (.lst 0 true []), (.bool false)]) []⟩]
abbrev debuggerref35_New.r1 : List Ins := [⟨some 3, none, .op .id [.tmp 0]⟩,
  ⟨some 4, none, .op (.build [(.int .i64 0), (.int .i64 0), (.int .i64 0), (.int .i64 0), (.int .i64 0), (.int .i64 0), (.lst 0 true []), (.bool false)] [(0, 1)]) [.tmp 3]⟩,
  ⟨none, none, .op (.store 8) [.tmp 2, .tmp 4]⟩]
abbrev debuggerref35_New.body : Cd := (.seq (.rgn debuggerref35_New.r0) (.seq (.rgn debuggerref35_New.r1) .ret))
def debuggerref35_New.af : AF := ⟨1, 5, [.cell 2 8 false], debuggerref35_New.body⟩
theorem debuggerref35_New.ok : cFunc PP [] Try.f21 = some debuggerref35_New.af := by kernel_rfl
theorem debuggerref35_New.intro {args : List V} {H : Heap} {Q : V → Heap → Prop} (hlen : args.length ≤ 5) (h : wpC (SCall PP) H.length debuggerref35_New.body (exitK H.length [.cell 2 8 false] Q) ⟨initVs 0 args, H⟩) : SCall PP N.debuggerref35_New args H Q :=
  SCall.intro Try.func21 (by kernel_rfl) debuggerref35_New.ok hlen h
/-! ### debugger/debuggerref35.Push -/
/-! ### debugger/debuggerref35.send -/
abbrev debuggerref35_send.r0 : List Ins := [⟨some 3, none, .op .box [.tmp 1]⟩,
  ⟨some 4, none, .op .id [.val (.t (.lst 0 true []))]⟩]
abbrev debuggerref35_send.r1 : List Ins := [⟨some 8, none, .op (.loadN 6) [.tmp 3]⟩,
  ⟨some 9, none, .call N.debuggerref33_Encode [.tmp 8]⟩,
  ⟨some 7, none, .op .id [.tmp 9]⟩,
  ⟨some 10, none, .op (.extract 0) [.tmp 7]⟩,
  ⟨some 11, none, .op (.extract 1) [.tmp 7]⟩,
  ⟨some 5, none, .op .id [.tmp 10]⟩,
  ⟨some 6, none, .op .id [.tmp 11]⟩]
abbrev debuggerref35_send.r2 : List Ins := [⟨some 12, none, .op .id [.tmp 6]⟩,
  ⟨some 13, none, .op (.bin .neq) [.tmp 12, .val (.t (.int .i64 0))]⟩]
abbrev debuggerref35_send.r3 : List Ins := [⟨some 14, none, .op .id [.tmp 0]⟩,
  ⟨some 4, none, .op .id [.tmp 14]⟩]
abbrev debuggerref35_send.r4 : List Ins := [⟨some 15, none, .op .id [.tmp 0]⟩,
  ⟨some 16, none, .op .id [.tmp 5]⟩,
  ⟨some 17, none, .op (.buildSlice 1 (.lst 0 true []) 1 [0]) [.tmp 16]⟩,
  ⟨some 18, none, .op (.append 1 24) [.tmp 15, .tmp 17]⟩,
  ⟨some 4, none, .op .id [.tmp 18]⟩]
abbrev debuggerref35_send.body : Cd := (.seq (.rgn debuggerref35_send.r0) (.seq (.rgn debuggerref35_send.r1) (.seq (.seq (.rgn debuggerref35_send.r2) (.cond (.tmp 13) (.seq (.rgn debuggerref35_send.r3) .ret) .skip)) (.seq (.rgn debuggerref35_send.r4) .ret))))
def debuggerref35_send.af : AF := ⟨2, 19, [.tmp 4], debuggerref35_send.body⟩
theorem debuggerref35_send.ok : cFunc PP [] Try.f29 = some debuggerref35_send.af := by kernel_rfl
theorem debuggerref35_send.intro {args : List V} {H : Heap} {Q : V → Heap → Prop} (hlen : args.length ≤ 19) (h : wpC (SCall PP) H.length debuggerref35_send.body (exitK H.length [.tmp 4] Q) ⟨initVs 0 args, H⟩) : SCall PP N.debuggerref35_send args H Q :=
  SCall.intro Try.func29 (by kernel_rfl) debuggerref35_send.ok hlen h
/-! ### debugger/debuggerref35.Same -/
abbrev debuggerref35_Same.r0 : List Ins := [⟨some 2, none, .op .box [.tmp 0]⟩,
  ⟨some 3, none, .op .box [.tmp 1]⟩,
  ⟨some 4, none, .op .id [.val (.t (.bool false))]⟩]
abbrev debuggerref35_Same.r1 : List Ins := [⟨some 6, none, .op (.fieldA 0) [.tmp 2]⟩,
  ⟨some 7, none, .op .load1 [.tmp 6]⟩,
  ⟨some 8, none, .op (.fieldA 0) [.tmp 3]⟩,
  ⟨some 9, none, .op .load1 [.tmp 8]⟩,
  ⟨some 10, none, .op (.bin .neq) [.tmp 7, .tmp 9]⟩,
  ⟨some 11, none, .op .id [.tmp 10]⟩,
  ⟨some 12, some (11, false), .op (.fieldA 1) [.tmp 2]⟩,
  ⟨some 13, some (11, false), .op .load1 [.tmp 12]⟩,
  ⟨some 14, some (11, false), .op (.fieldA 1) [.tmp 3]⟩,
  ⟨some 15, some (11, false), .op .load1 [.tmp 14]⟩,
  ⟨some 16, some (11, false), .op (.bin .neq) [.tmp 13, .tmp 15]⟩,
  ⟨some 17, none, .op .pick [.tmp 11, .val (.t (.bool true)), .tmp 16]⟩,
  ⟨some 18, none, .op .id [.tmp 17]⟩,
  ⟨some 19, some (18, false), .op (.fieldA 2) [.tmp 2]⟩,
  ⟨some 20, some (18, false), .op .load1 [.tmp 19]⟩,
  ⟨some 21, some (18, false), .op (.fieldA 2) [.tmp 3]⟩,
  ⟨some 22, some (18, false), .op .load1 [.tmp 21]⟩,
  ⟨some 23, some (18, false), .op (.bin .neq) [.tmp 20, .tmp 22]⟩,
  ⟨some 24, none, .op .pick [.tmp 18, .val (.t (.bool true)), .tmp 23]⟩,
  ⟨some 25, none, .op .id [.tmp 24]⟩,
  ⟨some 26, some (25, false), .op (.fieldA 3) [.tmp 2]⟩,
  ⟨some 27, some (25, false), .op .load1 [.tmp 26]⟩,
  ⟨some 28, some (25, false), .op (.fieldA 3) [.tmp 3]⟩,
  ⟨some 29, some (25, false), .op .load1 [.tmp 28]⟩,
  ⟨some 30, some (25, false), .op (.bin .neq) [.tmp 27, .tmp 29]⟩,
  ⟨some 31, none, .op .pick [.tmp 25, .val (.t (.bool true)), .tmp 30]⟩,
  ⟨some 32, none, .op .id [.tmp 31]⟩,
  ⟨some 33, some (32, false), .op (.fieldA 4) [.tmp 2]⟩,
  ⟨some 34, some (32, false), .op .load1 [.tmp 33]⟩,
  ⟨some 35, some (32, false), .op (.fieldA 4) [.tmp 3]⟩,
  ⟨some 36, some (32, false), .op .load1 [.tmp 35]⟩,
  ⟨some 37, some (32, false), .op (.bin .neq) [.tmp 34, .tmp 36]⟩,
  ⟨some 38, none, .op .pick [.tmp 32, .val (.t (.bool true)), .tmp 37]⟩,
  ⟨some 39, none, .op .id [.tmp 38]⟩,
  ⟨some 40, some (39, false), .op (.fieldA 5) [.tmp 2]⟩,
  ⟨some 41, some (39, false), .op .load1 [.tmp 40]⟩,
  ⟨some 42, some (39, false), .op (.fieldA 5) [.tmp 3]⟩,
  ⟨some 43, some (39, false), .op .load1 [.tmp 42]⟩,
  ⟨some 44, some (39, false), .op (.bin .neq) [.tmp 41, .tmp 43]⟩,
  ⟨some 45, none, .op .pick [.tmp 39, .val (.t (.bool true)), .tmp 44]⟩,
  ⟨some 46, none, .op .id [.tmp 45]⟩,
  ⟨some 47, some (46, false), .op (.fieldA 7) [.tmp 2]⟩,
  ⟨some 48, some (46, false), .op .load1 [.tmp 47]⟩,
  ⟨some 49, some (46, false), .op (.fieldA 7) [.tmp 3]⟩,
  ⟨some 50, some (46, false), .op .load1 [.tmp 49]⟩,
  ⟨some 51, some (46, false), .op (.binB .neq) [.tmp 48, .tmp 50]⟩,
  ⟨some 52, none, .op .pick [.tmp 46, .val (.t (.bool true)), .tmp 51]⟩,
  ⟨some 53, none, .op .id [.tmp 52]⟩,
  ⟨some 54, some (53, false), .op (.fieldA 6) [.tmp 2]⟩,
  ⟨some 55, some (53, false), .op .load1 [.tmp 54]⟩,
  ⟨some 56, some (53, false), .op .len [.tmp 55]⟩,
  ⟨some 57, some (53, false), .op (.fieldA 6) [.tmp 3]⟩,
  ⟨some 58, some (53, false), .op .load1 [.tmp 57]⟩,
  ⟨some 59, some (53, false), .op .len [.tmp 58]⟩,
  ⟨some 60, some (53, false), .op (.bin .neq) [.tmp 56, .tmp 59]⟩,
  ⟨some 61, none, .op .pick [.tmp 53, .val (.t (.bool true)), .tmp 60]⟩]
abbrev debuggerref35_Same.r2 : List Ins := [⟨some 4, none, .op .id [.val (.t (.bool false))]⟩]
abbrev debuggerref35_Same.r3 : List Ins := [⟨some 5, none, .op .id [.val (.t (.int .i64 0))]⟩]
abbrev debuggerref35_Same.r4 : List Ins := [⟨some 62, none, .op .id [.tmp 5]⟩,
  ⟨some 63, none, .op (.fieldA 6) [.tmp 2]⟩,
  ⟨some 64, none, .op .load1 [.tmp 63]⟩,
  ⟨some 65, none, .op .len [.tmp 64]⟩,
  ⟨some 66, none, .op (.bin .lss) [.tmp 62, .tmp 65]⟩]
abbrev debuggerref35_Same.d0 : Plan := (.val ⟨some 69, none, .op (.fieldA 6) [.tmp 2]⟩
  (.val ⟨some 70, none, .op .load1 [.tmp 69]⟩
  (.val ⟨some 71, none, .op .id [.tmp 5]⟩
  (.val ⟨some 72, none, .op (.idxS 1) [.tmp 70, .tmp 71]⟩
  (.val ⟨some 73, none, .op .load1 [.tmp 72]⟩
  (.val ⟨some 74, none, .op .toStr [.tmp 73]⟩
  (.val ⟨some 75, none, .op (.fieldA 6) [.tmp 3]⟩
  (.val ⟨some 76, none, .op .load1 [.tmp 75]⟩
  (.val ⟨some 77, none, .op .id [.tmp 5]⟩
  (.val ⟨some 78, none, .op (.idxS 1) [.tmp 76, .tmp 77]⟩
  (.val ⟨some 79, none, .op .load1 [.tmp 78]⟩
  (.val ⟨some 80, none, .op .toStr [.tmp 79]⟩
  (.val ⟨some 81, none, .op (.bin .neq) [.tmp 74, .tmp 80]⟩
  .fin)))))))))))))
abbrev debuggerref35_Same.r5 : List Ins := [⟨some 4, none, .op .id [.val (.t (.bool false))]⟩]
abbrev debuggerref35_Same.r6 : List Ins := [⟨some 67, none, .op .id [.tmp 5]⟩,
  ⟨some 68, none, .op (.bin .add) [.tmp 67, .val (.t (.int .i64 1))]⟩,
  ⟨some 5, none, .op .id [.tmp 68]⟩]
abbrev debuggerref35_Same.l0 : Cd := (.seq (.seq (.rgn debuggerref35_Same.r4) (.cond (.tmp 66) .skip (.exit 0))) (.seq (.block 1 (.seq (.rgnD debuggerref35_Same.d0) (.cond (.tmp 81) (.seq (.rgn debuggerref35_Same.r5) .ret) .skip))) (.rgn debuggerref35_Same.r6)))
abbrev debuggerref35_Same.r7 : List Ins := [⟨some 4, none, .op .id [.val (.t (.bool true))]⟩]
abbrev debuggerref35_Same.body : Cd := (.seq (.rgn debuggerref35_Same.r0) (.seq (.seq (.rgn debuggerref35_Same.r1) (.cond (.tmp 61) (.seq (.rgn debuggerref35_Same.r2) .ret) .skip)) (.seq (.seq (.rgn debuggerref35_Same.r3) (.block 0 (.loop debuggerref35_Same.l0))) (.seq (.rgn debuggerref35_Same.r7) .ret))))
def debuggerref35_Same.af : AF := ⟨2, 82, [.tmp 4], debuggerref35_Same.body⟩
theorem debuggerref35_Same.ok : cFunc PP [] Try.f30 = some debuggerref35_Same.af := by kernel_rfl
theorem debuggerref35_Same.intro {args : List V} {H : Heap} {Q : V → Heap → Prop} (hlen : args.length ≤ 82) (h : wpC (SCall PP) H.length debuggerref35_Same.body (exitK H.length [.tmp 4] Q) ⟨initVs 0 args, H⟩) : SCall PP N.debuggerref35_Same args H Q :=
  SCall.intro Try.func30 (by kernel_rfl) debuggerref35_Same.ok hlen h
end Go.Proofs.Ytbpclinijbgchaa
