/- The functions of package debuggerref35 as the code of the abstract machine. Written by a program of the session. -/
import Derived.Test.YtbpclinijbgchaaFn
namespace Go.Proofs.Ytbpclinijbgchaa
open Go Go.Abs
set_option maxRecDepth 100000
/-! ### debugger/debuggerref35.Poll -/
/-! ### debugger/debuggerref35.Receive -/
/-! ### debugger/debuggerref35.New -/
/-! ### debugger/debuggerref35.Push -/
abbrev debuggerref35_Push.r0 : List Ins := [⟨some 2, none, .op .box [.tmp 0]⟩,
  ⟨some 4, none, .op (.alloc [(.int .i64 0), (.int .i64 0), (.int .i64 0), (.int .i64 0), (.int .i64 0), (.int .i64 0), (.lst 0 true []), (.bool false)]) []⟩,
  ⟨some 5, none, .op .id [.val (.t (.int .i64 0))]⟩]
abbrev debuggerref35_Push.r1 : List Ins := [⟨some 6, none, .op .id [.tmp 1]⟩,
  ⟨some 7, none, .op .len [.tmp 6]⟩,
  ⟨some 8, none, .op (.bin .gtr) [.tmp 7, .val (.t (.int .i64 6000))]⟩]
abbrev debuggerref35_Push.r2 : List Ins := [⟨some 9, none, .op (.build [(.int .i64 0), (.int .i64 0), (.int .i64 0), (.int .i64 0), (.int .i64 0), (.int .i64 0), (.lst 0 true []), (.bool false)] []) []⟩,
  ⟨none, none, .op (.store 8) [.tmp 4, .tmp 9]⟩,
  ⟨some 5, none, .op .id [.val (.t (.int .i64 1))]⟩]
abbrev debuggerref35_Push.r3 : List Ins := [⟨some 10, none, .op (.fieldA 6) [.tmp 2]⟩,
  ⟨some 11, none, .op .load1 [.tmp 10]⟩,
  ⟨some 12, none, .op .len [.tmp 11]⟩,
  ⟨some 13, none, .op (.bin .geq) [.tmp 12, .val (.t (.int .i64 1000))]⟩]
abbrev debuggerref35_Push.r4 : List Ins := [⟨some 14, none, .op (.build [(.int .i64 0), (.int .i64 0), (.int .i64 0), (.int .i64 0), (.int .i64 0), (.int .i64 0), (.lst 0 true []), (.bool false)] []) []⟩,
  ⟨none, none, .op (.store 8) [.tmp 4, .tmp 14]⟩,
  ⟨some 5, none, .op .id [.val (.t (.int .i64 5))]⟩]
abbrev debuggerref35_Push.r5 : List Ins := [⟨some 15, none, .op (.buildSlice 1 (.lst 0 true []) 0 []) []⟩,
  ⟨some 16, none, .op (.fieldA 6) [.tmp 2]⟩,
  ⟨some 17, none, .op .load1 [.tmp 16]⟩,
  ⟨some 18, none, .op (.append 1 24) [.tmp 15, .tmp 17]⟩,
  ⟨some 19, none, .op (.buildSlice 1 (.int .u8 0) 0 []) []⟩,
  ⟨some 20, none, .op .id [.tmp 1]⟩,
  ⟨some 21, none, .op (.append 1 1) [.tmp 19, .tmp 20]⟩,
  ⟨some 22, none, .op (.buildSlice 1 (.lst 0 true []) 1 [0]) [.tmp 21]⟩,
  ⟨some 23, none, .op (.append 1 24) [.tmp 18, .tmp 22]⟩,
  ⟨some 24, none, .op (.fieldA 6) [.tmp 2]⟩,
  ⟨none, none, .op (.store 1) [.tmp 24, .tmp 23]⟩]
abbrev debuggerref35_Push.r6 : List Ins := [⟨some 25, none, .op (.loadN 8) [.tmp 2]⟩,
  ⟨none, none, .op (.store 8) [.tmp 4, .tmp 25]⟩,
  ⟨some 5, none, .op .id [.val (.t (.int .i64 0))]⟩]
abbrev debuggerref35_Push.body : Cd := (.seq (.rgn debuggerref35_Push.r0) (.seq (.seq (.rgn debuggerref35_Push.r1) (.cond (.tmp 8) (.seq (.rgn debuggerref35_Push.r2) .ret) .skip)) (.seq (.seq (.rgn debuggerref35_Push.r3) (.cond (.tmp 13) (.seq (.rgn debuggerref35_Push.r4) .ret) .skip)) (.seq (.rgn debuggerref35_Push.r5) (.seq (.rgn debuggerref35_Push.r6) .ret)))))
def debuggerref35_Push.af : AF := ⟨2, 26, [.cell 4 8 false, .tmp 5], debuggerref35_Push.body⟩
theorem debuggerref35_Push.ok : cFunc PP [] Try.f23 = some debuggerref35_Push.af := by kernel_rfl
theorem debuggerref35_Push.intro {args : List V} {H : Heap} {Q : V → Heap → Prop} (hlen : args.length ≤ 26) (h : wpC (SCall PP) H.length debuggerref35_Push.body (exitK H.length [.cell 4 8 false, .tmp 5] Q) ⟨initVs 0 args, H⟩) : SCall PP N.debuggerref35_Push args H Q :=
  SCall.intro Try.func23 (by kernel_rfl) debuggerref35_Push.ok hlen h
/-! ### debugger/debuggerref35.send -/
/-! ### debugger/debuggerref35.Same -/
abbrev debuggerref35_Same.r0 : List Ins := [⟨some 2, none, .op .box [.tmp 0]⟩,
  ⟨some 3, none, .op .box [.tmp 1]⟩,
  ⟨some 4, none, .op .id [.val (.t (.bool false))]⟩]
abbrev debuggerref35_Same.r1 : List Ins := [⟨some 6, none, .op (.fieldA 0) [.tmp 2]⟩,
  ⟨some 7, none, .op .load1 [.tmp 6]⟩,
  ⟨some 8, none, .op (.fieldA 0) [.tmp 3]⟩,
  ⟨some 9, none, .op .load1 [.tmp 8]⟩,
  ⟨some 10, none, .op (.bin .neq) [.tmp 7, .tmp 9]⟩,
  ⟨some 11, none, .op .id [.tmp 10]⟩,
  ⟨some 12, some (11, false), .op (.fieldA 1) [.tmp 2]⟩,
  ⟨some 13, some (11, false), .op .load1 [.tmp 12]⟩,
  ⟨some 14, some (11, false), .op (.fieldA 1) [.tmp 3]⟩,
  ⟨some 15, some (11, false), .op .load1 [.tmp 14]⟩,
  ⟨some 16, some (11, false), .op (.bin .neq) [.tmp 13, .tmp 15]⟩,
  ⟨some 17, none, .op .pick [.tmp 11, .val (.t (.bool true)), .tmp 16]⟩,
  ⟨some 18, none, .op .id [.tmp 17]⟩,
  ⟨some 19, some (18, false), .op (.fieldA 2) [.tmp 2]⟩,
  ⟨some 20, some (18, false), .op .load1 [.tmp 19]⟩,
  ⟨some 21, some (18, false), .op (.fieldA 2) [.tmp 3]⟩,
  ⟨some 22, some (18, false), .op .load1 [.tmp 21]⟩,
  ⟨some 23, some (18, false), .op (.bin .neq) [.tmp 20, .tmp 22]⟩,
  ⟨some 24, none, .op .pick [.tmp 18, .val (.t (.bool true)), .tmp 23]⟩,
  ⟨some 25, none, .op .id [.tmp 24]⟩,
  ⟨some 26, some (25, false), .op (.fieldA 3) [.tmp 2]⟩,
  ⟨some 27, some (25, false), .op .load1 [.tmp 26]⟩,
  ⟨some 28, some (25, false), .op (.fieldA 3) [.tmp 3]⟩,
  ⟨some 29, some (25, false), .op .load1 [.tmp 28]⟩,
  ⟨some 30, some (25, false), .op (.bin .neq) [.tmp 27, .tmp 29]⟩,
  ⟨some 31, none, .op .pick [.tmp 25, .val (.t (.bool true)), .tmp 30]⟩,
  ⟨some 32, none, .op .id [.tmp 31]⟩,
  ⟨some 33, some (32, false), .op (.fieldA 4) [.tmp 2]⟩,
  ⟨some 34, some (32, false), .op .load1 [.tmp 33]⟩,
  ⟨some 35, some (32, false), .op (.fieldA 4) [.tmp 3]⟩,
  ⟨some 36, some (32, false), .op .load1 [.tmp 35]⟩,
  ⟨some 37, some (32, false), .op (.bin .neq) [.tmp 34, .tmp 36]⟩,
  ⟨some 38, none, .op .pick [.tmp 32, .val (.t (.bool true)), .tmp 37]⟩,
  ⟨some 39, none, .op .id [.tmp 38]⟩,
  ⟨some 40, some (39, false), .op (.fieldA 5) [.tmp 2]⟩,
  ⟨some 41, some (39, false), .op .load1 [.tmp 40]⟩,
  ⟨some 42, some (39, false), .op (.fieldA 5) [.tmp 3]⟩,
  ⟨some 43, some (39, false), .op .load1 [.tmp 42]⟩,
  ⟨some 44, some (39, false), .op (.bin .neq) [.tmp 41, .tmp 43]⟩,
  ⟨some 45, none, .op .pick [.tmp 39, .val (.t (.bool true)), .tmp 44]⟩,
  ⟨some 46, none, .op .id [.tmp 45]⟩,
  ⟨some 47, some (46, false), .op (.fieldA 7) [.tmp 2]⟩,
  ⟨some 48, some (46, false), .op .load1 [.tmp 47]⟩,
  ⟨some 49, some (46, false), .op (.fieldA 7) [.tmp 3]⟩,
  ⟨some 50, some (46, false), .op .load1 [.tmp 49]⟩,
  ⟨some 51, some (46, false), .op (.binB .neq) [.tmp 48, .tmp 50]⟩,
  ⟨some 52, none, .op .pick [.tmp 46, .val (.t (.bool true)), .tmp 51]⟩,
  ⟨some 53, none, .op .id [.tmp 52]⟩,
  ⟨some 54, some (53, false), .op (.fieldA 6) [.tmp 2]⟩,
  ⟨some 55, some (53, false), .op .load1 [.tmp 54]⟩,
  ⟨some 56, some (53, false), .op .len [.tmp 55]⟩,
  ⟨some 57, some (53, false), .op (.fieldA 6) [.tmp 3]⟩,
  ⟨some 58, some (53, false), .op .load1 [.tmp 57]⟩,
  ⟨some 59, some (53, false), .op .len [.tmp 58]⟩,
  ⟨some 60, some (53, false), .op (.bin .neq) [.tmp 56, .tmp 59]⟩,
  ⟨some 61, none, .op .pick [.tmp 53, .val (.t (.bool true)), .tmp 60]⟩]
abbrev debuggerref35_Same.r2 : List Ins := [⟨some 4, none, .op .id [.val (.t (.bool false))]⟩]
abbrev debuggerref35_Same.r3 : List Ins := [⟨some 5, none, .op .id [.val (.t (.int .i64 0))]⟩]
abbrev debuggerref35_Same.r4 : List Ins := [⟨some 62, none, .op .id [.tmp 5]⟩,
  ⟨some 63, none, .op (.fieldA 6) [.tmp 2]⟩,
  ⟨some 64, none, .op .load1 [.tmp 63]⟩,
  ⟨some 65, none, .op .len [.tmp 64]⟩,
  ⟨some 66, none, .op (.bin .lss) [.tmp 62, .tmp 65]⟩]
abbrev debuggerref35_Same.d0 : Plan := (.val ⟨some 69, none, .op (.fieldA 6) [.tmp 2]⟩
  (.val ⟨some 70, none, .op .load1 [.tmp 69]⟩
  (.val ⟨some 71, none, .op .id [.tmp 5]⟩
  (.val ⟨some 72, none, .op (.idxS 1) [.tmp 70, .tmp 71]⟩
  (.val ⟨some 73, none, .op .load1 [.tmp 72]⟩
  (.val ⟨some 74, none, .op .toStr [.tmp 73]⟩
  (.val ⟨some 75, none, .op (.fieldA 6) [.tmp 3]⟩
  (.val ⟨some 76, none, .op .load1 [.tmp 75]⟩
  (.val ⟨some 77, none, .op .id [.tmp 5]⟩
  (.val ⟨some 78, none, .op (.idxS 1) [.tmp 76, .tmp 77]⟩
  (.val ⟨some 79, none, .op .load1 [.tmp 78]⟩
  (.val ⟨some 80, none, .op .toStr [.tmp 79]⟩
  (.val ⟨some 81, none, .op (.bin .neq) [.tmp 74, .tmp 80]⟩
  .fin)))))))))))))
abbrev debuggerref35_Same.r5 : List Ins := [⟨some 4, none, .op .id [.val (.t (.bool false))]⟩]
abbrev debuggerref35_Same.r6 : List Ins := [⟨some 67, none, .op .id [.tmp 5]⟩,
  ⟨some 68, none, .op (.bin .add) [.tmp 67, .val (.t (.int .i64 1))]⟩,
  ⟨some 5, none, .op .id [.tmp 68]⟩]
abbrev debuggerref35_Same.l0 : Cd := (.seq (.seq (.rgn debuggerref35_Same.r4) (.cond (.tmp 66) .skip (.exit 0))) (.seq (.block 1 (.seq (.rgnD debuggerref35_Same.d0) (.cond (.tmp 81) (.seq (.rgn debuggerref35_Same.r5) .ret) .skip))) (.rgn debuggerref35_Same.r6)))
abbrev debuggerref35_Same.r7 : List Ins := [⟨some 4, none, .op .id [.val (.t (.bool true))]⟩]
abbrev debuggerref35_Same.body : Cd := (.seq (.rgn debuggerref35_Same.r0) (.seq (.seq (.rgn debuggerref35_Same.r1) (.cond (.tmp 61) (.seq (.rgn debuggerref35_Same.r2) .ret) .skip)) (.seq (.seq (.rgn debuggerref35_Same.r3) (.block 0 (.loop debuggerref35_Same.l0))) (.seq (.rgn debuggerref35_Same.r7) .ret))))
def debuggerref35_Same.af : AF := ⟨2, 82, [.tmp 4], debuggerref35_Same.body⟩
theorem debuggerref35_Same.ok : cFunc PP [] Try.f30 = some debuggerref35_Same.af := by kernel_rfl
theorem debuggerref35_Same.intro {args : List V} {H : Heap} {Q : V → Heap → Prop} (hlen : args.length ≤ 82) (h : wpC (SCall PP) H.length debuggerref35_Same.body (exitK H.length [.tmp 4] Q) ⟨initVs 0 args, H⟩) : SCall PP N.debuggerref35_Same args H Q :=
  SCall.intro Try.func30 (by kernel_rfl) debuggerref35_Same.ok hlen h
end Go.Proofs.Ytbpclinijbgchaa
