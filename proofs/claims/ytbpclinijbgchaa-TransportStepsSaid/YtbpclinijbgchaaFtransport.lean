/- The functions of package transport as the code of the abstract machine. Written by a program of the session. -/
import Derived.Test.YtbpclinijbgchaaFn
namespace Go.Proofs.Ytbpclinijbgchaa
open Go Go.Abs
set_option maxRecDepth 100000
/-! ### debugger/transport.Poll -/
abbrev transport_Poll.r0 : List Ins := [⟨some 2, none, .op .box [.tmp 0]⟩,
  ⟨some 4, none, .op (.alloc [(.int .i64 0), (.int .i64 0), (.int .i64 0), (.int .i64 0), (.int .i64 0), (.int .i64 0), (.lst 0 true []), (.bool false)]) []⟩,
  ⟨some 5, none, .op .id [.val (.t (.lst 0 true []))]⟩]
abbrev transport_Poll.r1 : List Ins := [⟨some 10, none, .op (.loadN 8) [.tmp 2]⟩,
  ⟨some 11, none, .call N.transport_clone [.tmp 10]⟩,
  ⟨none, none, .op (.store 8) [.tmp 2, .tmp 11]⟩]
abbrev transport_Poll.r2 : List Ins := [⟨some 6, none, .op (.alloc [(.lst 0 true [])]) []⟩]
abbrev transport_Poll.r3 : List Ins := [⟨some 7, none, .op (.alloc [(.bool false)]) []⟩,
  ⟨none, none, .op (.store 1) [.tmp 7, .val (.t (.bool false))]⟩]
abbrev transport_Poll.r4 : List Ins := [⟨some 12, none, .op (.mkfn N.transport_Poll_1) [.tmp 2, .tmp 6, .tmp 7]⟩,
  ⟨some 8, none, .op .id [.tmp 12]⟩]
abbrev transport_Poll.r5 : List Ins := [⟨some 13, none, .op (.fieldA 1) [.tmp 2]⟩,
  ⟨some 14, none, .op .load1 [.tmp 13]⟩,
  ⟨some 15, none, .op (.bin .eql) [.tmp 14, .val (.t (.int .i64 0))]⟩]
abbrev transport_Poll.r6 : List Ins := [⟨some 16, none, .op .id [.tmp 1]⟩,
  ⟨some 17, none, .op (.fieldA 5) [.tmp 2]⟩,
  ⟨some 18, none, .op .load1 [.tmp 17]⟩,
  ⟨some 19, none, .op (.bin .geq) [.tmp 16, .tmp 18]⟩]
abbrev transport_Poll.r7 : List Ins := [⟨some 20, none, .op .id [.tmp 8]⟩,
  ⟨some 21, none, .op (.build [(.int .i64 0), (.int .i64 0), (.int .i64 0), (.int .i64 0), (.int .i64 0), (.lst 0 true [])] [(0, 1)]) [.val (.t (.int .i64 1))]⟩,
  ⟨some 22, none, .callv (.tmp 20) [.tmp 21]⟩]
abbrev transport_Poll.r8 : List Ins := [⟨some 23, none, .op .id [.tmp 1]⟩,
  ⟨some 24, none, .op (.bin .add) [.tmp 23, .val (.t (.int .i64 8))]⟩,
  ⟨some 25, none, .op (.fieldA 5) [.tmp 2]⟩,
  ⟨none, none, .op (.store 1) [.tmp 25, .tmp 24]⟩]
abbrev transport_Poll.r9 : List Ins := [⟨some 26, none, .op (.fieldA 3) [.tmp 2]⟩,
  ⟨some 27, none, .op .load1 [.tmp 26]⟩,
  ⟨some 28, none, .op (.fieldA 2) [.tmp 2]⟩,
  ⟨some 29, none, .op .load1 [.tmp 28]⟩,
  ⟨some 30, none, .op (.bin .gtr) [.tmp 27, .tmp 29]⟩,
  ⟨some 31, none, .op .id [.tmp 30]⟩,
  ⟨some 32, some (31, true), .op .id [.tmp 1]⟩,
  ⟨some 33, some (31, true), .op (.fieldA 5) [.tmp 2]⟩,
  ⟨some 34, some (31, true), .op .load1 [.tmp 33]⟩,
  ⟨some 35, some (31, true), .op (.bin .geq) [.tmp 32, .tmp 34]⟩,
  ⟨some 36, none, .op .pick [.tmp 31, .tmp 35, .val (.t (.bool false))]⟩]
abbrev transport_Poll.r10 : List Ins := [⟨some 37, none, .op (.fieldA 2) [.tmp 2]⟩,
  ⟨some 38, none, .op .load1 [.tmp 37]⟩,
  ⟨some 39, none, .op (.fieldA 3) [.tmp 2]⟩,
  ⟨none, none, .op (.store 1) [.tmp 39, .tmp 38]⟩]
abbrev transport_Poll.r11 : List Ins := [⟨some 40, none, .op (.fieldA 3) [.tmp 2]⟩,
  ⟨some 41, none, .op .load1 [.tmp 40]⟩,
  ⟨some 42, none, .op (.fieldA 2) [.tmp 2]⟩,
  ⟨some 43, none, .op .load1 [.tmp 42]⟩,
  ⟨some 44, none, .op .max2 [.tmp 41, .tmp 43]⟩,
  ⟨some 45, none, .op (.fieldA 3) [.tmp 2]⟩,
  ⟨none, none, .op (.store 1) [.tmp 45, .tmp 44]⟩]
abbrev transport_Poll.r12 : List Ins := [⟨some 46, none, .op (.fieldA 3) [.tmp 2]⟩,
  ⟨some 47, none, .op .load1 [.tmp 46]⟩,
  ⟨some 48, none, .op (.fieldA 2) [.tmp 2]⟩,
  ⟨some 49, none, .op .load1 [.tmp 48]⟩,
  ⟨some 50, none, .op (.bin .add) [.tmp 49, .val (.t (.int .i64 4))]⟩,
  ⟨some 51, none, .op (.bin .lss) [.tmp 47, .tmp 50]⟩,
  ⟨some 52, none, .op .id [.tmp 51]⟩,
  ⟨some 53, some (52, true), .op (.fieldA 3) [.tmp 2]⟩,
  ⟨some 54, some (52, true), .op .load1 [.tmp 53]⟩,
  ⟨some 55, some (52, true), .op (.fieldA 2) [.tmp 2]⟩,
  ⟨some 56, some (52, true), .op .load1 [.tmp 55]⟩,
  ⟨some 57, some (52, true), .op (.fieldA 6) [.tmp 2]⟩,
  ⟨some 58, some (52, true), .op .load1 [.tmp 57]⟩,
  ⟨some 59, some (52, true), .op .len [.tmp 58]⟩,
  ⟨some 60, some (52, true), .op (.bin .add) [.tmp 56, .tmp 59]⟩,
  ⟨some 61, some (52, true), .op (.bin .lss) [.tmp 54, .tmp 60]⟩,
  ⟨some 62, none, .op .pick [.tmp 52, .tmp 61, .val (.t (.bool false))]⟩]
abbrev transport_Poll.r13 : List Ins := [⟨some 63, none, .op (.fieldA 3) [.tmp 2]⟩,
  ⟨some 64, none, .op .load1 [.tmp 63]⟩,
  ⟨some 65, none, .op (.fieldA 2) [.tmp 2]⟩,
  ⟨some 66, none, .op .load1 [.tmp 65]⟩,
  ⟨some 67, none, .op (.bin .sub) [.tmp 64, .tmp 66]⟩,
  ⟨some 9, none, .op .id [.tmp 67]⟩]
abbrev transport_Poll.r14 : List Ins := [⟨some 68, none, .op (.fieldA 3) [.tmp 2]⟩,
  ⟨some 69, none, .op .load1 [.tmp 68]⟩,
  ⟨some 70, none, .op (.bin .add) [.tmp 69, .val (.t (.int .i64 1))]⟩,
  ⟨some 71, none, .op (.fieldA 3) [.tmp 2]⟩,
  ⟨none, none, .op (.store 1) [.tmp 71, .tmp 70]⟩]
abbrev transport_Poll.d0 : Plan := (.val ⟨some 72, none, .op .id [.tmp 8]⟩
  (.val ⟨some 73, none, .op (.fieldA 1) [.tmp 2]⟩
  (.val ⟨some 74, none, .op .load1 [.tmp 73]⟩
  (.val ⟨some 75, none, .op (.fieldA 3) [.tmp 2]⟩
  (.val ⟨some 76, none, .op .load1 [.tmp 75]⟩
  (.val ⟨some 77, none, .op (.fieldA 4) [.tmp 2]⟩
  (.val ⟨some 78, none, .op .load1 [.tmp 77]⟩
  (.val ⟨some 79, none, .op (.fieldA 6) [.tmp 2]⟩
  (.val ⟨some 80, none, .op .load1 [.tmp 79]⟩
  (.val ⟨some 81, none, .op .id [.tmp 9]⟩
  (.val ⟨some 82, none, .op (.idxS 1) [.tmp 80, .tmp 81]⟩
  (.val ⟨some 83, none, .op .load1 [.tmp 82]⟩
  (.val ⟨some 84, none, .op (.build [(.int .i64 0), (.int .i64 0), (.int .i64 0), (.int .i64 0), (.int .i64 0), (.lst 0 true [])] [(0, 1), (2, 1), (3, 1), (4, 1), (5, 1)]) [.val (.t (.int .i64 2)), .tmp 74, .tmp 76, .tmp 78, .tmp 83]⟩
  (.eff ⟨some 85, none, .callv (.tmp 72) [.tmp 84]⟩ []
  .fin))))))))))))))
abbrev transport_Poll.r15 : List Ins := [⟨some 86, none, .op .id [.tmp 1]⟩,
  ⟨some 87, none, .op (.bin .add) [.tmp 86, .val (.t (.int .i64 8))]⟩,
  ⟨some 88, none, .op (.fieldA 5) [.tmp 2]⟩,
  ⟨none, none, .op (.store 1) [.tmp 88, .tmp 87]⟩]
abbrev transport_Poll.l0 : Cd := (.seq (.seq (.rgn transport_Poll.r12) (.cond (.tmp 62) .skip (.exit 0))) (.block 1 (.seq (.rgn transport_Poll.r13) (.seq (.rgn transport_Poll.r14) (.seq (.rgnD transport_Poll.d0) (.rgn transport_Poll.r15))))))
abbrev transport_Poll.r16 : List Ins := [⟨some 89, none, .op .load1 [.tmp 7]⟩,
  ⟨some 90, none, .op (.un .not) [.tmp 89]⟩,
  ⟨some 91, none, .op .id [.tmp 90]⟩,
  ⟨some 92, some (91, true), .op (.fieldA 7) [.tmp 2]⟩,
  ⟨some 93, some (91, true), .op .load1 [.tmp 92]⟩,
  ⟨some 94, none, .op .pick [.tmp 91, .tmp 93, .val (.t (.bool false))]⟩]
abbrev transport_Poll.r17 : List Ins := [⟨some 95, none, .op .id [.tmp 8]⟩,
  ⟨some 96, none, .op (.fieldA 1) [.tmp 2]⟩,
  ⟨some 97, none, .op .load1 [.tmp 96]⟩,
  ⟨some 98, none, .op (.fieldA 4) [.tmp 2]⟩,
  ⟨some 99, none, .op .load1 [.tmp 98]⟩,
  ⟨some 100, none, .op (.build [(.int .i64 0), (.int .i64 0), (.int .i64 0), (.int .i64 0), (.int .i64 0), (.lst 0 true [])] [(0, 1), (2, 1), (4, 1)]) [.val (.t (.int .i64 3)), .tmp 97, .tmp 99]⟩,
  ⟨some 101, none, .callv (.tmp 95) [.tmp 100]⟩]
abbrev transport_Poll.r18 : List Ins := [⟨some 102, none, .op .load1 [.tmp 7]⟩]
abbrev transport_Poll.r19 : List Ins := [⟨some 103, none, .op (.fieldA 7) [.tmp 2]⟩,
  ⟨none, none, .op (.store 1) [.tmp 103, .val (.t (.bool false))]⟩]
abbrev transport_Poll.d1 : Plan := (.val ⟨some 104, none, .op (.loadN 8) [.tmp 2]⟩
  (.val ⟨some 105, none, .op .load1 [.tmp 6]⟩
  (.eff ⟨none, none, .op (.store 8) [.tmp 4, .tmp 104]⟩ [⟨some 105, none, .op .load1 [.tmp 6]⟩]
  (.val ⟨some 5, none, .op .id [.tmp 105]⟩
  .fin))))
abbrev transport_Poll.body : Cd := (.seq (.rgn transport_Poll.r0) (.seq (.rgn transport_Poll.r1) (.seq (.rgn transport_Poll.r2) (.seq (.rgn transport_Poll.r3) (.seq (.rgn transport_Poll.r4) (.seq (.seq (.rgn transport_Poll.r5) (.cond (.tmp 15) (.seq (.rgn transport_Poll.r6) (.cond (.tmp 19) (.seq (.rgn transport_Poll.r7) (.rgn transport_Poll.r8)) .skip)) (.seq (.seq (.rgn transport_Poll.r9) (.cond (.tmp 36) (.rgn transport_Poll.r10) .skip)) (.seq (.rgn transport_Poll.r11) (.seq (.block 0 (.loop transport_Poll.l0)) (.seq (.rgn transport_Poll.r16) (.cond (.tmp 94) (.rgn transport_Poll.r17) .skip))))))) (.seq (.seq (.rgn transport_Poll.r18) (.cond (.tmp 102) (.rgn transport_Poll.r19) .skip)) (.seq (.rgnD transport_Poll.d1) .ret))))))))
def transport_Poll.af : AF := ⟨2, 106, [.cell 4 8 false, .tmp 5], transport_Poll.body⟩
theorem transport_Poll.ok : cFunc PP [] Try.f13 = some transport_Poll.af := by kernel_rfl
theorem transport_Poll.intro {args : List V} {H : Heap} {Q : V → Heap → Prop} (hlen : args.length ≤ 106) (h : wpC (SCall PP) H.length transport_Poll.body (exitK H.length [.cell 4 8 false, .tmp 5] Q) ⟨initVs 0 args, H⟩) : SCall PP N.transport_Poll args H Q :=
  SCall.intro Try.func13 (by kernel_rfl) transport_Poll.ok hlen h
/-! ### debugger/transport.Receive -/
abbrev transport_Receive.r0 : List Ins := [⟨some 2, none, .op .box [.tmp 0]⟩,
  ⟨some 4, none, .op (.alloc [(.int .i64 0), (.int .i64 0), (.int .i64 0), (.int .i64 0), (.int .i64 0), (.int .i64 0), (.lst 0 true []), (.bool false)]) []⟩,
  ⟨some 5, none, .op .id [.val (.t (.lst 0 true []))]⟩,
  ⟨some 6, none, .op .id [.val (.t (.bool false))]⟩]
abbrev transport_Receive.r1 : List Ins := [⟨some 12, none, .op (.loadN 8) [.tmp 2]⟩,
  ⟨some 13, none, .call N.transport_clone [.tmp 12]⟩,
  ⟨none, none, .op (.store 8) [.tmp 2, .tmp 13]⟩]
abbrev transport_Receive.r2 : List Ins := [⟨some 15, none, .op .id [.tmp 1]⟩,
  ⟨some 16, none, .call N.packet_Decode [.tmp 15]⟩,
  ⟨some 14, none, .op .id [.tmp 16]⟩,
  ⟨some 17, none, .op (.extract 0) [.tmp 14]⟩,
  ⟨some 18, none, .op (.extract 1) [.tmp 14]⟩,
  ⟨some 7, none, .op (.alloc [(.int .i64 0), (.int .i64 0), (.int .i64 0), (.int .i64 0), (.int .i64 0), (.lst 0 true [])]) []⟩,
  ⟨none, none, .op (.store 6) [.tmp 7, .tmp 17]⟩,
  ⟨some 8, none, .op .id [.tmp 18]⟩]
abbrev transport_Receive.r3 : List Ins := [⟨some 19, none, .op .id [.tmp 8]⟩,
  ⟨some 20, none, .op (.bin .neq) [.tmp 19, .val (.t (.int .i64 0))]⟩,
  ⟨some 21, none, .op .id [.tmp 20]⟩,
  ⟨some 22, some (21, false), .op (.fieldA 1) [.tmp 7]⟩,
  ⟨some 23, some (21, false), .op .load1 [.tmp 22]⟩,
  ⟨some 24, some (21, false), .op (.fieldA 1) [.tmp 2]⟩,
  ⟨some 25, some (21, false), .op .load1 [.tmp 24]⟩,
  ⟨some 26, some (21, false), .op (.bin .lss) [.tmp 23, .tmp 25]⟩,
  ⟨some 27, none, .op .pick [.tmp 21, .val (.t (.bool true)), .tmp 26]⟩]
abbrev transport_Receive.r4 : List Ins := [⟨some 28, none, .op (.loadN 8) [.tmp 2]⟩,
  ⟨none, none, .op (.store 8) [.tmp 4, .tmp 28]⟩,
  ⟨some 5, none, .op .id [.val (.t (.lst 0 true []))]⟩,
  ⟨some 6, none, .op .id [.val (.t (.bool false))]⟩]
abbrev transport_Receive.r5 : List Ins := [⟨some 9, none, .op .id [.val (.t (.bool false))]⟩]
abbrev transport_Receive.r6 : List Ins := [⟨some 29, none, .op (.fieldA 1) [.tmp 7]⟩,
  ⟨some 30, none, .op .load1 [.tmp 29]⟩,
  ⟨some 31, none, .op (.fieldA 1) [.tmp 2]⟩,
  ⟨some 32, none, .op .load1 [.tmp 31]⟩,
  ⟨some 33, none, .op (.bin .gtr) [.tmp 30, .tmp 32]⟩]
abbrev transport_Receive.r7 : List Ins := [⟨some 34, none, .op (.fieldA 1) [.tmp 2]⟩,
  ⟨some 35, none, .op .load1 [.tmp 34]⟩,
  ⟨some 36, none, .op (.bin .neq) [.tmp 35, .val (.t (.int .i64 0))]⟩]
abbrev transport_Receive.r8 : List Ins := [⟨some 9, none, .op .id [.val (.t (.bool true))]⟩]
abbrev transport_Receive.r9 : List Ins := [⟨some 37, none, .op (.fieldA 6) [.tmp 2]⟩,
  ⟨none, none, .op (.store 1) [.tmp 37, .val (.t (.lst 0 true []))]⟩]
abbrev transport_Receive.r10 : List Ins := [⟨some 38, none, .op (.fieldA 1) [.tmp 7]⟩,
  ⟨some 39, none, .op .load1 [.tmp 38]⟩,
  ⟨some 40, none, .op (.fieldA 1) [.tmp 2]⟩,
  ⟨none, none, .op (.store 1) [.tmp 40, .tmp 39]⟩,
  ⟨some 41, none, .op (.fieldA 2) [.tmp 2]⟩,
  ⟨none, none, .op (.store 1) [.tmp 41, .val (.t (.int .i64 0))]⟩,
  ⟨some 42, none, .op (.fieldA 3) [.tmp 2]⟩,
  ⟨none, none, .op (.store 1) [.tmp 42, .val (.t (.int .i64 0))]⟩,
  ⟨some 43, none, .op (.fieldA 4) [.tmp 2]⟩,
  ⟨none, none, .op (.store 1) [.tmp 43, .val (.t (.int .i64 0))]⟩,
  ⟨some 44, none, .op (.fieldA 5) [.tmp 2]⟩,
  ⟨none, none, .op (.store 1) [.tmp 44, .val (.t (.int .i64 0))]⟩]
abbrev transport_Receive.r11 : List Ins := [⟨some 45, none, .op (.fieldA 2) [.tmp 7]⟩,
  ⟨some 46, none, .op .load1 [.tmp 45]⟩,
  ⟨some 47, none, .op (.fieldA 0) [.tmp 2]⟩,
  ⟨some 48, none, .op .load1 [.tmp 47]⟩,
  ⟨some 49, none, .op (.bin .neq) [.tmp 46, .tmp 48]⟩]
abbrev transport_Receive.r12 : List Ins := [⟨some 50, none, .op (.fieldA 7) [.tmp 2]⟩,
  ⟨none, none, .op (.store 1) [.tmp 50, .val (.t (.bool true))]⟩]
abbrev transport_Receive.r13 : List Ins := [⟨some 51, none, .op (.loadN 8) [.tmp 2]⟩,
  ⟨some 52, none, .op .id [.tmp 9]⟩,
  ⟨none, none, .op (.store 8) [.tmp 4, .tmp 51]⟩,
  ⟨some 5, none, .op .id [.val (.t (.lst 0 true []))]⟩,
  ⟨some 6, none, .op .id [.tmp 52]⟩]
abbrev transport_Receive.r14 : List Ins := [⟨some 53, none, .op (.fieldA 4) [.tmp 7]⟩,
  ⟨some 54, none, .op .load1 [.tmp 53]⟩,
  ⟨some 55, none, .op (.fieldA 2) [.tmp 2]⟩,
  ⟨some 56, none, .op .load1 [.tmp 55]⟩,
  ⟨some 57, none, .op (.bin .sub) [.tmp 54, .tmp 56]⟩,
  ⟨some 10, none, .op .id [.tmp 57]⟩]
abbrev transport_Receive.r15 : List Ins := [⟨some 58, none, .op (.fieldA 4) [.tmp 7]⟩,
  ⟨some 59, none, .op .load1 [.tmp 58]⟩,
  ⟨some 60, none, .op (.fieldA 2) [.tmp 2]⟩,
  ⟨some 61, none, .op .load1 [.tmp 60]⟩,
  ⟨some 62, none, .op (.bin .gtr) [.tmp 59, .tmp 61]⟩,
  ⟨some 63, none, .op .id [.tmp 62]⟩,
  ⟨some 64, some (63, true), .op .id [.tmp 10]⟩,
  ⟨some 65, some (63, true), .op (.bin .gtr) [.tmp 64, .val (.t (.int .i64 0))]⟩,
  ⟨some 66, none, .op .pick [.tmp 63, .tmp 65, .val (.t (.bool false))]⟩,
  ⟨some 67, none, .op .id [.tmp 66]⟩,
  ⟨some 68, some (67, true), .op .id [.tmp 10]⟩,
  ⟨some 69, some (67, true), .op (.fieldA 6) [.tmp 2]⟩,
  ⟨some 70, some (67, true), .op .load1 [.tmp 69]⟩,
  ⟨some 71, some (67, true), .op .len [.tmp 70]⟩,
  ⟨some 72, some (67, true), .op (.bin .leq) [.tmp 68, .tmp 71]⟩,
  ⟨some 73, none, .op .pick [.tmp 67, .tmp 72, .val (.t (.bool false))]⟩]
abbrev transport_Receive.r16 : List Ins := [⟨some 74, none, .op (.fieldA 6) [.tmp 2]⟩,
  ⟨some 75, none, .op .load1 [.tmp 74]⟩,
  ⟨some 76, none, .op .id [.tmp 10]⟩,
  ⟨some 77, none, .op (.slice 1 true false) [.tmp 75, .tmp 76]⟩,
  ⟨some 78, none, .op (.fieldA 6) [.tmp 2]⟩,
  ⟨none, none, .op (.store 1) [.tmp 78, .tmp 77]⟩]
abbrev transport_Receive.r17 : List Ins := [⟨some 79, none, .op (.fieldA 4) [.tmp 7]⟩,
  ⟨some 80, none, .op .load1 [.tmp 79]⟩,
  ⟨some 81, none, .op (.fieldA 2) [.tmp 2]⟩,
  ⟨none, none, .op (.store 1) [.tmp 81, .tmp 80]⟩]
abbrev transport_Receive.r18 : List Ins := [⟨some 82, none, .op (.fieldA 3) [.tmp 2]⟩,
  ⟨some 83, none, .op .load1 [.tmp 82]⟩,
  ⟨some 84, none, .op (.fieldA 2) [.tmp 2]⟩,
  ⟨some 85, none, .op .load1 [.tmp 84]⟩,
  ⟨some 86, none, .op .max2 [.tmp 83, .tmp 85]⟩,
  ⟨some 87, none, .op (.fieldA 3) [.tmp 2]⟩,
  ⟨none, none, .op (.store 1) [.tmp 87, .tmp 86]⟩]
abbrev transport_Receive.r19 : List Ins := [⟨some 11, none, .op .id [.val (.t (.lst 0 true []))]⟩]
abbrev transport_Receive.r20 : List Ins := [⟨some 88, none, .op (.fieldA 0) [.tmp 7]⟩,
  ⟨some 89, none, .op .load1 [.tmp 88]⟩]
abbrev transport_Receive.r21 : List Ins := [⟨some 91, none, .op (.bin .eql) [.tmp 89, .val (.t (.int .i64 2))]⟩,
  ⟨some 90, none, .op .id [.tmp 91]⟩]
abbrev transport_Receive.r22 : List Ins := [⟨some 92, none, .op (.fieldA 3) [.tmp 7]⟩,
  ⟨some 93, none, .op .load1 [.tmp 92]⟩,
  ⟨some 94, none, .op (.fieldA 4) [.tmp 2]⟩,
  ⟨some 95, none, .op .load1 [.tmp 94]⟩,
  ⟨some 96, none, .op (.bin .add) [.tmp 95, .val (.t (.int .i64 1))]⟩,
  ⟨some 97, none, .op (.bin .eql) [.tmp 93, .tmp 96]⟩]
abbrev transport_Receive.r23 : List Ins := [⟨some 98, none, .op .id [.tmp 11]⟩,
  ⟨some 99, none, .op (.fieldA 5) [.tmp 7]⟩,
  ⟨some 100, none, .op .load1 [.tmp 99]⟩,
  ⟨some 101, none, .op (.buildSlice 1 (.lst 0 true []) 1 [0]) [.tmp 100]⟩,
  ⟨some 102, none, .op (.append 1 24) [.tmp 98, .tmp 101]⟩,
  ⟨some 11, none, .op .id [.tmp 102]⟩]
abbrev transport_Receive.r24 : List Ins := [⟨some 103, none, .op (.fieldA 4) [.tmp 2]⟩,
  ⟨some 104, none, .op .load1 [.tmp 103]⟩,
  ⟨some 105, none, .op (.bin .add) [.tmp 104, .val (.t (.int .i64 1))]⟩,
  ⟨some 106, none, .op (.fieldA 4) [.tmp 2]⟩,
  ⟨none, none, .op (.store 1) [.tmp 106, .tmp 105]⟩]
abbrev transport_Receive.r25 : List Ins := [⟨some 107, none, .op (.fieldA 7) [.tmp 2]⟩,
  ⟨none, none, .op (.store 1) [.tmp 107, .val (.t (.bool true))]⟩]
abbrev transport_Receive.r26 : List Ins := [⟨some 109, none, .op (.bin .eql) [.tmp 89, .val (.t (.int .i64 1))]⟩,
  ⟨some 108, none, .op .id [.tmp 109]⟩]
abbrev transport_Receive.r27 : List Ins := [⟨some 110, none, .op (.fieldA 7) [.tmp 2]⟩,
  ⟨none, none, .op (.store 1) [.tmp 110, .val (.t (.bool true))]⟩]
abbrev transport_Receive.r28 : List Ins := [⟨some 111, none, .op (.loadN 8) [.tmp 2]⟩,
  ⟨some 112, none, .op .id [.tmp 11]⟩,
  ⟨some 113, none, .op .id [.tmp 9]⟩,
  ⟨none, none, .op (.store 8) [.tmp 4, .tmp 111]⟩,
  ⟨some 5, none, .op .id [.tmp 112]⟩,
  ⟨some 6, none, .op .id [.tmp 113]⟩]
abbrev transport_Receive.body : Cd := (.seq (.rgn transport_Receive.r0) (.seq (.rgn transport_Receive.r1) (.seq (.rgn transport_Receive.r2) (.seq (.seq (.rgn transport_Receive.r3) (.cond (.tmp 27) (.seq (.rgn transport_Receive.r4) .ret) .skip)) (.seq (.rgn transport_Receive.r5) (.seq (.seq (.rgn transport_Receive.r6) (.cond (.tmp 33) (.seq (.seq (.rgn transport_Receive.r7) (.cond (.tmp 36) (.seq (.rgn transport_Receive.r8) (.rgn transport_Receive.r9)) .skip)) (.rgn transport_Receive.r10)) .skip)) (.seq (.seq (.rgn transport_Receive.r11) (.cond (.tmp 49) (.seq (.rgn transport_Receive.r12) (.seq (.rgn transport_Receive.r13) .ret)) .skip)) (.seq (.seq (.rgn transport_Receive.r14) (.seq (.rgn transport_Receive.r15) (.cond (.tmp 73) (.seq (.rgn transport_Receive.r16) (.seq (.rgn transport_Receive.r17) (.rgn transport_Receive.r18))) .skip))) (.seq (.rgn transport_Receive.r19) (.seq (.seq (.rgn transport_Receive.r20) (.block 0 (.seq (.rgn transport_Receive.r21) (.cond (.tmp 90) (.seq (.seq (.rgn transport_Receive.r22) (.cond (.tmp 97) (.seq (.rgn transport_Receive.r23) (.rgn transport_Receive.r24)) .skip)) (.rgn transport_Receive.r25)) (.seq (.rgn transport_Receive.r26) (.cond (.tmp 108) (.rgn transport_Receive.r27) .skip)))))) (.seq (.rgn transport_Receive.r28) .ret)))))))))))
def transport_Receive.af : AF := ⟨2, 114, [.cell 4 8 false, .tmp 5, .tmp 6], transport_Receive.body⟩
theorem transport_Receive.ok : cFunc PP [] Try.f18 = some transport_Receive.af := by kernel_rfl
theorem transport_Receive.intro {args : List V} {H : Heap} {Q : V → Heap → Prop} (hlen : args.length ≤ 114) (h : wpC (SCall PP) H.length transport_Receive.body (exitK H.length [.cell 4 8 false, .tmp 5, .tmp 6] Q) ⟨initVs 0 args, H⟩) : SCall PP N.transport_Receive args H Q :=
  SCall.intro Try.func18 (by kernel_rfl) transport_Receive.ok hlen h
/-! ### debugger/transport.New -/
abbrev transport_New.r0 : List Ins := [⟨some 2, none, .op (.alloc [(.int .i64 0), (.int .i64 0), (.int .i64 0), (.int .i64 0), (.int .i64 0), (.int .i64 0), (.lst 0 true []), (.bool false)]) []⟩]
abbrev transport_New.r1 : List Ins := [⟨some 3, none, .op .id [.tmp 0]⟩,
  ⟨some 4, none, .op (.build [(.int .i64 0), (.int .i64 0), (.int .i64 0), (.int .i64 0), (.int .i64 0), (.int .i64 0), (.lst 0 true []), (.bool false)] [(0, 1)]) [.tmp 3]⟩,
  ⟨none, none, .op (.store 8) [.tmp 2, .tmp 4]⟩]
abbrev transport_New.body : Cd := (.seq (.rgn transport_New.r0) (.seq (.rgn transport_New.r1) .ret))
def transport_New.af : AF := ⟨1, 5, [.cell 2 8 false], transport_New.body⟩
theorem transport_New.ok : cFunc PP [] Try.f20 = some transport_New.af := by kernel_rfl
theorem transport_New.intro {args : List V} {H : Heap} {Q : V → Heap → Prop} (hlen : args.length ≤ 5) (h : wpC (SCall PP) H.length transport_New.body (exitK H.length [.cell 2 8 false] Q) ⟨initVs 0 args, H⟩) : SCall PP N.transport_New args H Q :=
  SCall.intro Try.func20 (by kernel_rfl) transport_New.ok hlen h
/-! ### debugger/transport.Push -/
abbrev transport_Push.r0 : List Ins := [⟨some 2, none, .op .box [.tmp 0]⟩,
  ⟨some 4, none, .op (.alloc [(.int .i64 0), (.int .i64 0), (.int .i64 0), (.int .i64 0), (.int .i64 0), (.int .i64 0), (.lst 0 true []), (.bool false)]) []⟩,
  ⟨some 5, none, .op .id [.val (.t (.int .i64 0))]⟩]
abbrev transport_Push.r1 : List Ins := [⟨some 6, none, .op .id [.tmp 1]⟩,
  ⟨some 7, none, .op .len [.tmp 6]⟩,
  ⟨some 8, none, .op (.bin .gtr) [.tmp 7, .val (.t (.int .i64 6000))]⟩]
abbrev transport_Push.r2 : List Ins := [⟨some 9, none, .op (.build [(.int .i64 0), (.int .i64 0), (.int .i64 0), (.int .i64 0), (.int .i64 0), (.int .i64 0), (.lst 0 true []), (.bool false)] []) []⟩,
  ⟨none, none, .op (.store 8) [.tmp 4, .tmp 9]⟩,
  ⟨some 5, none, .op .id [.val (.t (.int .i64 1))]⟩]
abbrev transport_Push.r3 : List Ins := [⟨some 10, none, .op (.fieldA 6) [.tmp 2]⟩,
  ⟨some 11, none, .op .load1 [.tmp 10]⟩,
  ⟨some 12, none, .op .len [.tmp 11]⟩,
  ⟨some 13, none, .op (.bin .geq) [.tmp 12, .val (.t (.int .i64 1000))]⟩]
abbrev transport_Push.r4 : List Ins := [⟨some 14, none, .op (.build [(.int .i64 0), (.int .i64 0), (.int .i64 0), (.int .i64 0), (.int .i64 0), (.int .i64 0), (.lst 0 true []), (.bool false)] []) []⟩,
  ⟨none, none, .op (.store 8) [.tmp 4, .tmp 14]⟩,
  ⟨some 5, none, .op .id [.val (.t (.int .i64 5))]⟩]
abbrev transport_Push.r5 : List Ins := [⟨some 15, none, .op (.loadN 8) [.tmp 2]⟩,
  ⟨some 16, none, .call N.transport_clone [.tmp 15]⟩,
  ⟨none, none, .op (.store 8) [.tmp 2, .tmp 16]⟩]
abbrev transport_Push.d0 : Plan := (.val ⟨some 17, none, .op (.fieldA 6) [.tmp 2]⟩
  (.val ⟨some 18, none, .op .load1 [.tmp 17]⟩
  (.val ⟨some 19, none, .op .id [.tmp 1]⟩
  (.eff ⟨some 20, none, .op (.append 1 1) [.val (.t (.lst 0 true [])), .tmp 19]⟩ [⟨some 18, none, .op .load1 [.tmp 17]⟩]
  (.eff ⟨some 21, none, .op (.buildSlice 1 (.lst 0 true []) 1 [0]) [.tmp 20]⟩ [⟨some 18, none, .op .load1 [.tmp 17]⟩]
  (.eff ⟨some 22, none, .op (.append 1 24) [.tmp 18, .tmp 21]⟩ []
  (.val ⟨some 23, none, .op (.fieldA 6) [.tmp 2]⟩
  (.eff ⟨none, none, .op (.store 1) [.tmp 23, .tmp 22]⟩ []
  .fin))))))))
abbrev transport_Push.r6 : List Ins := [⟨some 24, none, .op (.loadN 8) [.tmp 2]⟩,
  ⟨none, none, .op (.store 8) [.tmp 4, .tmp 24]⟩,
  ⟨some 5, none, .op .id [.val (.t (.int .i64 0))]⟩]
abbrev transport_Push.body : Cd := (.seq (.rgn transport_Push.r0) (.seq (.seq (.rgn transport_Push.r1) (.cond (.tmp 8) (.seq (.rgn transport_Push.r2) .ret) .skip)) (.seq (.seq (.rgn transport_Push.r3) (.cond (.tmp 13) (.seq (.rgn transport_Push.r4) .ret) .skip)) (.seq (.rgn transport_Push.r5) (.seq (.rgnD transport_Push.d0) (.seq (.rgn transport_Push.r6) .ret))))))
def transport_Push.af : AF := ⟨2, 25, [.cell 4 8 false, .tmp 5], transport_Push.body⟩
theorem transport_Push.ok : cFunc PP [] Try.f22 = some transport_Push.af := by kernel_rfl
theorem transport_Push.intro {args : List V} {H : Heap} {Q : V → Heap → Prop} (hlen : args.length ≤ 25) (h : wpC (SCall PP) H.length transport_Push.body (exitK H.length [.cell 4 8 false, .tmp 5] Q) ⟨initVs 0 args, H⟩) : SCall PP N.transport_Push args H Q :=
  SCall.intro Try.func22 (by kernel_rfl) transport_Push.ok hlen h
/-! ### debugger/transport.clone -/
abbrev transport_clone.r0 : List Ins := [⟨some 1, none, .op .box [.tmp 0]⟩,
  ⟨some 2, none, .op (.alloc [(.int .i64 0), (.int .i64 0), (.int .i64 0), (.int .i64 0), (.int .i64 0), (.int .i64 0), (.lst 0 true []), (.bool false)]) []⟩]
abbrev transport_clone.r1 : List Ins := [⟨some 3, none, .op .id [.val (.t (.lst 0 true []))]⟩]
abbrev transport_clone.r2 : List Ins := [⟨some 6, none, .op (.fieldA 6) [.tmp 1]⟩,
  ⟨some 7, none, .op .load1 [.tmp 6]⟩,
  ⟨some 8, none, .op .len [.tmp 7]⟩,
  ⟨some 9, none, .op .id [.val (.t (.int .i64 0))]⟩]
abbrev transport_clone.r3 : List Ins := [⟨some 10, none, .op (.bin .lss) [.tmp 9, .tmp 8]⟩]
abbrev transport_clone.r4 : List Ins := [⟨some 11, none, .op (.idxS 1) [.tmp 7, .tmp 9]⟩,
  ⟨some 12, none, .op .load1 [.tmp 11]⟩,
  ⟨some 5, none, .op .id [.tmp 12]⟩]
abbrev transport_clone.r5 : List Ins := [⟨some 13, none, .op .id [.tmp 3]⟩,
  ⟨some 14, none, .op .id [.tmp 5]⟩,
  ⟨some 15, none, .op (.append 1 1) [.val (.t (.lst 0 true [])), .tmp 14]⟩,
  ⟨some 16, none, .op (.buildSlice 1 (.lst 0 true []) 1 [0]) [.tmp 15]⟩,
  ⟨some 17, none, .op (.append 1 24) [.tmp 13, .tmp 16]⟩,
  ⟨some 3, none, .op .id [.tmp 17]⟩]
abbrev transport_clone.r6 : List Ins := [⟨some 18, none, .op (.bin .add) [.tmp 9, .val (.t (.int .i64 1))]⟩,
  ⟨some 9, none, .op .id [.tmp 18]⟩]
abbrev transport_clone.l0 : Cd := (.seq (.rgn transport_clone.r3) (.seq (.cond (.tmp 10) .skip (.exit 0)) (.seq (.block 1 (.seq (.rgn transport_clone.r4) (.rgn transport_clone.r5))) (.rgn transport_clone.r6))))
abbrev transport_clone.r7 : List Ins := [⟨some 19, none, .op .id [.tmp 3]⟩,
  ⟨some 20, none, .op (.fieldA 6) [.tmp 1]⟩,
  ⟨none, none, .op (.store 1) [.tmp 20, .tmp 19]⟩]
abbrev transport_clone.r8 : List Ins := [⟨some 21, none, .op (.loadN 8) [.tmp 1]⟩,
  ⟨none, none, .op (.store 8) [.tmp 2, .tmp 21]⟩]
abbrev transport_clone.body : Cd := (.seq (.rgn transport_clone.r0) (.seq (.rgn transport_clone.r1) (.seq (.seq (.rgn transport_clone.r2) (.block 0 (.loop transport_clone.l0))) (.seq (.rgn transport_clone.r7) (.seq (.rgn transport_clone.r8) .ret)))))
def transport_clone.af : AF := ⟨1, 22, [.cell 2 8 false], transport_clone.body⟩
theorem transport_clone.ok : cFunc PP [] Try.f26 = some transport_clone.af := by kernel_rfl
theorem transport_clone.intro {args : List V} {H : Heap} {Q : V → Heap → Prop} (hlen : args.length ≤ 22) (h : wpC (SCall PP) H.length transport_clone.body (exitK H.length [.cell 2 8 false] Q) ⟨initVs 0 args, H⟩) : SCall PP N.transport_clone args H Q :=
  SCall.intro Try.func26 (by kernel_rfl) transport_clone.ok hlen h
/-! ### debugger/transport.Poll$1 -/
abbrev transport_Poll_1.r0 : List Ins := [⟨some 4, none, .op .box [.tmp 0]⟩]
abbrev transport_Poll_1.r1 : List Ins := [⟨some 7, none, .op (.fieldA 0) [.tmp 1]⟩,
  ⟨some 8, none, .op .load1 [.tmp 7]⟩,
  ⟨some 9, none, .op (.fieldA 1) [.tmp 4]⟩,
  ⟨none, none, .op (.store 1) [.tmp 9, .tmp 8]⟩]
abbrev transport_Poll_1.r2 : List Ins := [⟨some 11, none, .op (.loadN 6) [.tmp 4]⟩,
  ⟨some 12, none, .call N.packet_Encode [.tmp 11]⟩,
  ⟨some 10, none, .op .id [.tmp 12]⟩,
  ⟨some 13, none, .op (.extract 0) [.tmp 10]⟩,
  ⟨some 14, none, .op (.extract 1) [.tmp 10]⟩,
  ⟨some 5, none, .op .id [.tmp 13]⟩,
  ⟨some 6, none, .op .id [.tmp 14]⟩]
abbrev transport_Poll_1.r3 : List Ins := [⟨some 15, none, .op .id [.tmp 6]⟩,
  ⟨some 16, none, .op (.bin .eql) [.tmp 15, .val (.t (.int .i64 0))]⟩]
abbrev transport_Poll_1.r4 : List Ins := [⟨some 17, none, .op .load1 [.tmp 2]⟩,
  ⟨some 18, none, .op .id [.tmp 5]⟩,
  ⟨some 19, none, .op (.buildSlice 1 (.lst 0 true []) 1 [0]) [.tmp 18]⟩,
  ⟨some 20, none, .op (.append 1 24) [.tmp 17, .tmp 19]⟩,
  ⟨none, none, .op (.store 1) [.tmp 2, .tmp 20]⟩]
abbrev transport_Poll_1.r5 : List Ins := [⟨none, none, .op (.store 1) [.tmp 3, .val (.t (.bool true))]⟩]
abbrev transport_Poll_1.body : Cd := (.seq (.rgn transport_Poll_1.r0) (.seq (.rgn transport_Poll_1.r1) (.seq (.rgn transport_Poll_1.r2) (.seq (.rgn transport_Poll_1.r3) (.cond (.tmp 16) (.seq (.rgn transport_Poll_1.r4) (.rgn transport_Poll_1.r5)) .skip)))))
def transport_Poll_1.af : AF := ⟨1, 21, [], transport_Poll_1.body⟩
theorem transport_Poll_1.ok : cFunc PP [] Try.f27 = some transport_Poll_1.af := by kernel_rfl
theorem transport_Poll_1.intro {args : List V} {H : Heap} {Q : V → Heap → Prop} (hlen : args.length ≤ 21) (h : wpC (SCall PP) H.length transport_Poll_1.body (exitK H.length [] Q) ⟨initVs 0 args, H⟩) : SCall PP N.transport_Poll_1 args H Q :=
  SCall.intro Try.func27 (by kernel_rfl) transport_Poll_1.ok hlen h
end Go.Proofs.Ytbpclinijbgchaa
