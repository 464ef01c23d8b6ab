/- The functions of package debuggerlaw01 as the code of the abstract machine. Written by a program of the session. -/
import Derived.Test.YtljjabccgbakgaaFn
namespace Go.Proofs.Ytljjabccgbakgaa
open Go Go.Abs
set_option maxRecDepth 100000
/-! ### debugger/debuggerlaw01.WireWrites -/
abbrev debuggerlaw01_WireWrites.r0 : List Ins := [⟨some 6, none, .op .id [.val (.t (.bool false))]⟩]
abbrev debuggerlaw01_WireWrites.r1 : List Ins := [⟨some 7, none, .op .id [.tmp 0]⟩,
  ⟨some 8, none, .op .len [.tmp 7]⟩,
  ⟨some 9, none, .op (.bin .gtr) [.tmp 8, .val (.t (.int .i64 300))]⟩,
  ⟨some 10, none, .op .id [.tmp 9]⟩,
  ⟨some 11, some (10, false), .op .id [.tmp 2]⟩,
  ⟨some 12, some (10, false), .op .lenS [.tmp 11]⟩,
  ⟨some 13, some (10, false), .op (.bin .gtr) [.tmp 12, .val (.t (.int .i64 500))]⟩,
  ⟨some 14, none, .op .pick [.tmp 10, .val (.t (.bool true)), .tmp 13]⟩]
abbrev debuggerlaw01_WireWrites.r2 : List Ins := [⟨some 15, none, .call N.debuggerlaw01_known []⟩,
  ⟨some 6, none, .op .id [.tmp 15]⟩]
abbrev debuggerlaw01_WireWrites.r3 : List Ins := [⟨some 16, none, .op .id [.tmp 0]⟩,
  ⟨some 17, none, .op .id [.tmp 1]⟩,
  ⟨some 18, none, .call N.wire_AppendUint [.tmp 16, .tmp 17]⟩,
  ⟨some 19, none, .op .id [.tmp 0]⟩,
  ⟨some 20, none, .op .id [.tmp 1]⟩,
  ⟨some 21, none, .call N.debuggerref01_AppendUint [.tmp 19, .tmp 20]⟩,
  ⟨some 22, none, .call N.debuggersame_List_byte [.tmp 18, .tmp 21]⟩,
  ⟨some 23, none, .op .id [.tmp 22]⟩,
  ⟨some 24, some (23, true), .op .id [.tmp 0]⟩,
  ⟨some 25, some (23, true), .op .id [.tmp 1]⟩,
  ⟨some 26, some (23, true), .call N.wire_AppendInt [.tmp 24, .tmp 25]⟩,
  ⟨some 27, some (23, true), .op .id [.tmp 0]⟩,
  ⟨some 28, some (23, true), .op .id [.tmp 1]⟩,
  ⟨some 29, some (23, true), .call N.debuggerref01_AppendInt [.tmp 27, .tmp 28]⟩,
  ⟨some 30, some (23, true), .call N.debuggersame_List_byte [.tmp 26, .tmp 29]⟩,
  ⟨some 31, none, .op .pick [.tmp 23, .tmp 30, .val (.t (.bool false))]⟩,
  ⟨some 32, none, .op .id [.tmp 31]⟩,
  ⟨some 33, some (32, true), .op .id [.tmp 0]⟩,
  ⟨some 34, some (32, true), .op .id [.tmp 2]⟩,
  ⟨some 35, some (32, true), .call N.wire_AppendText [.tmp 33, .tmp 34]⟩,
  ⟨some 36, some (32, true), .op .id [.tmp 0]⟩,
  ⟨some 37, some (32, true), .op .id [.tmp 2]⟩,
  ⟨some 38, some (32, true), .call N.debuggerref01_AppendText [.tmp 36, .tmp 37]⟩,
  ⟨some 39, some (32, true), .call N.debuggersame_List_byte [.tmp 35, .tmp 38]⟩,
  ⟨some 40, none, .op .pick [.tmp 32, .tmp 39, .val (.t (.bool false))]⟩,
  ⟨some 41, none, .op .id [.tmp 40]⟩,
  ⟨some 42, some (41, true), .call N.debuggerlaw01_known []⟩,
  ⟨some 43, none, .op .pick [.tmp 41, .tmp 42, .val (.t (.bool false))]⟩,
  ⟨some 6, none, .op .id [.tmp 43]⟩]
abbrev debuggerlaw01_WireWrites.body : Cd := (.seq (.rgn debuggerlaw01_WireWrites.r0) (.seq (.seq (.rgn debuggerlaw01_WireWrites.r1) (.cond (.tmp 14) (.seq (.rgn debuggerlaw01_WireWrites.r2) .ret) .skip)) (.seq (.rgn debuggerlaw01_WireWrites.r3) .ret)))
def debuggerlaw01_WireWrites.af : AF := ⟨3, 44, [.tmp 6], debuggerlaw01_WireWrites.body⟩
theorem debuggerlaw01_WireWrites.ok : cFunc PP [] Try.f3 = some debuggerlaw01_WireWrites.af := by kernel_rfl
theorem debuggerlaw01_WireWrites.intro {args : List V} {H : Heap} {Q : V → Heap → Prop} (hlen : args.length ≤ 44) (h : wpC (SCall PP) H.length debuggerlaw01_WireWrites.body (exitK H.length [.tmp 6] Q) ⟨initVs 0 args, H⟩) : SCall PP N.debuggerlaw01_WireWrites args H Q :=
  SCall.intro Try.func3 (by kernel_rfl) debuggerlaw01_WireWrites.ok hlen h
/-! ### debugger/debuggerlaw01.WireOwn -/
abbrev debuggerlaw01_WireOwn.r0 : List Ins := [⟨some 6, none, .op .id [.val (.t (.bool false))]⟩]
abbrev debuggerlaw01_WireOwn.r1 : List Ins := [⟨some 16, none, .op .id [.tmp 0]⟩,
  ⟨some 17, none, .op .len [.tmp 16]⟩,
  ⟨some 18, none, .op (.bin .gtr) [.tmp 17, .val (.t (.int .i64 200))]⟩,
  ⟨some 19, none, .op .id [.tmp 18]⟩,
  ⟨some 20, some (19, false), .op .id [.tmp 2]⟩,
  ⟨some 21, some (19, false), .op .lenS [.tmp 20]⟩,
  ⟨some 22, some (19, false), .op (.bin .gtr) [.tmp 21, .val (.t (.int .i64 200))]⟩,
  ⟨some 23, none, .op .pick [.tmp 19, .val (.t (.bool true)), .tmp 22]⟩]
abbrev debuggerlaw01_WireOwn.r2 : List Ins := [⟨some 24, none, .call N.debuggerlaw01_known []⟩,
  ⟨some 6, none, .op .id [.tmp 24]⟩]
abbrev debuggerlaw01_WireOwn.r3 : List Ins := [⟨some 25, none, .op .id [.tmp 0]⟩,
  ⟨some 26, none, .op .len [.tmp 25]⟩,
  ⟨some 27, none, .op (.bin .add) [.tmp 26, .val (.t (.int .i64 40))]⟩,
  ⟨some 28, none, .op (.makeSlice 1 1 (.int .u8 0)) [.tmp 27, .tmp 27]⟩,
  ⟨some 7, none, .op .id [.tmp 28]⟩]
abbrev debuggerlaw01_WireOwn.r4 : List Ins := [⟨some 29, none, .op .id [.tmp 7]⟩,
  ⟨some 30, none, .op .id [.tmp 0]⟩,
  ⟨some 31, none, .op (.copy 1) [.tmp 29, .tmp 30]⟩]
abbrev debuggerlaw01_WireOwn.r5 : List Ins := [⟨some 32, none, .op .id [.tmp 0]⟩,
  ⟨some 33, none, .op .len [.tmp 32]⟩,
  ⟨some 8, none, .op .id [.tmp 33]⟩]
abbrev debuggerlaw01_WireOwn.r6 : List Ins := [⟨some 34, none, .op .id [.tmp 8]⟩,
  ⟨some 35, none, .op .id [.tmp 7]⟩,
  ⟨some 36, none, .op .len [.tmp 35]⟩,
  ⟨some 37, none, .op (.bin .lss) [.tmp 34, .tmp 36]⟩]
abbrev debuggerlaw01_WireOwn.r7 : List Ins := [⟨some 40, none, .op .id [.tmp 7]⟩,
  ⟨some 41, none, .op .id [.tmp 8]⟩,
  ⟨some 42, none, .op (.idxS 1) [.tmp 40, .tmp 41]⟩,
  ⟨none, none, .op (.store 1) [.tmp 42, .val (.t (.int .u8 77))]⟩]
abbrev debuggerlaw01_WireOwn.r8 : List Ins := [⟨some 38, none, .op .id [.tmp 8]⟩,
  ⟨some 39, none, .op (.bin .add) [.tmp 38, .val (.t (.int .i64 1))]⟩,
  ⟨some 8, none, .op .id [.tmp 39]⟩]
abbrev debuggerlaw01_WireOwn.l0 : Cd := (.seq (.seq (.rgn debuggerlaw01_WireOwn.r6) (.cond (.tmp 37) .skip (.exit 0))) (.seq (.block 1 (.rgn debuggerlaw01_WireOwn.r7)) (.rgn debuggerlaw01_WireOwn.r8)))
abbrev debuggerlaw01_WireOwn.d0 : Plan := (.val ⟨some 43, none, .op .id [.tmp 7]⟩
  (.val ⟨some 44, none, .op .id [.tmp 0]⟩
  (.val ⟨some 45, none, .op .len [.tmp 44]⟩
  (.val ⟨some 46, none, .op (.slice 1 false true) [.tmp 43, .tmp 45]⟩
  (.val ⟨some 47, none, .op .id [.tmp 1]⟩
  (.val ⟨some 49, none, .op .id [.tmp 7]⟩
  (.val ⟨some 50, none, .op .id [.tmp 0]⟩
  (.val ⟨some 51, none, .op .len [.tmp 50]⟩
  (.val ⟨some 52, none, .op (.slice 1 false true) [.tmp 49, .tmp 51]⟩
  (.val ⟨some 53, none, .op .id [.tmp 1]⟩
  (.val ⟨some 55, none, .op .id [.tmp 7]⟩
  (.val ⟨some 56, none, .op .id [.tmp 0]⟩
  (.val ⟨some 57, none, .op .len [.tmp 56]⟩
  (.val ⟨some 58, none, .op (.slice 1 false true) [.tmp 55, .tmp 57]⟩
  (.val ⟨some 59, none, .op .id [.tmp 2]⟩
  (.eff ⟨some 48, none, .call N.wire_AppendUint [.tmp 46, .tmp 47]⟩ []
  (.eff ⟨some 54, none, .call N.wire_AppendInt [.tmp 52, .tmp 53]⟩ []
  (.eff ⟨some 60, none, .call N.wire_AppendText [.tmp 58, .tmp 59]⟩ []
  (.val ⟨some 9, none, .op .id [.tmp 48]⟩
  (.val ⟨some 10, none, .op .id [.tmp 54]⟩
  (.val ⟨some 11, none, .op .id [.tmp 60]⟩
  .fin)))))))))))))))))))))
abbrev debuggerlaw01_WireOwn.r9 : List Ins := [⟨some 12, none, .op .id [.val (.t (.int .i64 0))]⟩]
abbrev debuggerlaw01_WireOwn.r10 : List Ins := [⟨some 61, none, .op .id [.tmp 12]⟩,
  ⟨some 62, none, .op .id [.tmp 9]⟩,
  ⟨some 63, none, .op .len [.tmp 62]⟩,
  ⟨some 64, none, .op (.bin .lss) [.tmp 61, .tmp 63]⟩]
abbrev debuggerlaw01_WireOwn.r11 : List Ins := [⟨some 67, none, .op .id [.tmp 9]⟩,
  ⟨some 68, none, .op .id [.tmp 12]⟩,
  ⟨some 69, none, .op (.idxS 1) [.tmp 67, .tmp 68]⟩,
  ⟨none, none, .op (.store 1) [.tmp 69, .val (.t (.int .u8 1))]⟩]
abbrev debuggerlaw01_WireOwn.r12 : List Ins := [⟨some 65, none, .op .id [.tmp 12]⟩,
  ⟨some 66, none, .op (.bin .add) [.tmp 65, .val (.t (.int .i64 1))]⟩,
  ⟨some 12, none, .op .id [.tmp 66]⟩]
abbrev debuggerlaw01_WireOwn.l1 : Cd := (.seq (.seq (.rgn debuggerlaw01_WireOwn.r10) (.cond (.tmp 64) .skip (.exit 2))) (.seq (.block 3 (.rgn debuggerlaw01_WireOwn.r11)) (.rgn debuggerlaw01_WireOwn.r12)))
abbrev debuggerlaw01_WireOwn.r13 : List Ins := [⟨some 13, none, .op .id [.val (.t (.int .i64 0))]⟩]
abbrev debuggerlaw01_WireOwn.r14 : List Ins := [⟨some 70, none, .op .id [.tmp 13]⟩,
  ⟨some 71, none, .op .id [.tmp 10]⟩,
  ⟨some 72, none, .op .len [.tmp 71]⟩,
  ⟨some 73, none, .op (.bin .lss) [.tmp 70, .tmp 72]⟩]
abbrev debuggerlaw01_WireOwn.r15 : List Ins := [⟨some 76, none, .op .id [.tmp 10]⟩,
  ⟨some 77, none, .op .id [.tmp 13]⟩,
  ⟨some 78, none, .op (.idxS 1) [.tmp 76, .tmp 77]⟩,
  ⟨none, none, .op (.store 1) [.tmp 78, .val (.t (.int .u8 2))]⟩]
abbrev debuggerlaw01_WireOwn.r16 : List Ins := [⟨some 74, none, .op .id [.tmp 13]⟩,
  ⟨some 75, none, .op (.bin .add) [.tmp 74, .val (.t (.int .i64 1))]⟩,
  ⟨some 13, none, .op .id [.tmp 75]⟩]
abbrev debuggerlaw01_WireOwn.l2 : Cd := (.seq (.seq (.rgn debuggerlaw01_WireOwn.r14) (.cond (.tmp 73) .skip (.exit 4))) (.seq (.block 5 (.rgn debuggerlaw01_WireOwn.r15)) (.rgn debuggerlaw01_WireOwn.r16)))
abbrev debuggerlaw01_WireOwn.r17 : List Ins := [⟨some 14, none, .op .id [.val (.t (.int .i64 0))]⟩]
abbrev debuggerlaw01_WireOwn.r18 : List Ins := [⟨some 79, none, .op .id [.tmp 14]⟩,
  ⟨some 80, none, .op .id [.tmp 11]⟩,
  ⟨some 81, none, .op .len [.tmp 80]⟩,
  ⟨some 82, none, .op (.bin .lss) [.tmp 79, .tmp 81]⟩]
abbrev debuggerlaw01_WireOwn.r19 : List Ins := [⟨some 85, none, .op .id [.tmp 11]⟩,
  ⟨some 86, none, .op .id [.tmp 14]⟩,
  ⟨some 87, none, .op (.idxS 1) [.tmp 85, .tmp 86]⟩,
  ⟨none, none, .op (.store 1) [.tmp 87, .val (.t (.int .u8 3))]⟩]
abbrev debuggerlaw01_WireOwn.r20 : List Ins := [⟨some 83, none, .op .id [.tmp 14]⟩,
  ⟨some 84, none, .op (.bin .add) [.tmp 83, .val (.t (.int .i64 1))]⟩,
  ⟨some 14, none, .op .id [.tmp 84]⟩]
abbrev debuggerlaw01_WireOwn.l3 : Cd := (.seq (.seq (.rgn debuggerlaw01_WireOwn.r18) (.cond (.tmp 82) .skip (.exit 6))) (.seq (.block 7 (.rgn debuggerlaw01_WireOwn.r19)) (.rgn debuggerlaw01_WireOwn.r20)))
abbrev debuggerlaw01_WireOwn.r21 : List Ins := [⟨some 88, none, .op .id [.tmp 0]⟩,
  ⟨some 89, none, .op .len [.tmp 88]⟩,
  ⟨some 15, none, .op .id [.tmp 89]⟩]
abbrev debuggerlaw01_WireOwn.r22 : List Ins := [⟨some 90, none, .op .id [.tmp 15]⟩,
  ⟨some 91, none, .op .id [.tmp 7]⟩,
  ⟨some 92, none, .op .len [.tmp 91]⟩,
  ⟨some 93, none, .op (.bin .lss) [.tmp 90, .tmp 92]⟩]
abbrev debuggerlaw01_WireOwn.r23 : List Ins := [⟨some 96, none, .op .id [.tmp 7]⟩,
  ⟨some 97, none, .op .id [.tmp 15]⟩,
  ⟨some 98, none, .op (.idxS 1) [.tmp 96, .tmp 97]⟩,
  ⟨some 99, none, .op .load1 [.tmp 98]⟩,
  ⟨some 100, none, .op (.bin .neq) [.tmp 99, .val (.t (.int .u8 77))]⟩]
abbrev debuggerlaw01_WireOwn.r24 : List Ins := [⟨some 6, none, .op .id [.val (.t (.bool false))]⟩]
abbrev debuggerlaw01_WireOwn.r25 : List Ins := [⟨some 94, none, .op .id [.tmp 15]⟩,
  ⟨some 95, none, .op (.bin .add) [.tmp 94, .val (.t (.int .i64 1))]⟩,
  ⟨some 15, none, .op .id [.tmp 95]⟩]
abbrev debuggerlaw01_WireOwn.l4 : Cd := (.seq (.seq (.rgn debuggerlaw01_WireOwn.r22) (.cond (.tmp 93) .skip (.exit 8))) (.seq (.block 9 (.seq (.rgn debuggerlaw01_WireOwn.r23) (.cond (.tmp 100) (.seq (.rgn debuggerlaw01_WireOwn.r24) .ret) .skip))) (.rgn debuggerlaw01_WireOwn.r25)))
abbrev debuggerlaw01_WireOwn.r26 : List Ins := [⟨some 101, none, .op .id [.tmp 7]⟩,
  ⟨some 102, none, .op .id [.tmp 0]⟩,
  ⟨some 103, none, .op .len [.tmp 102]⟩,
  ⟨some 104, none, .op (.slice 1 false true) [.tmp 101, .tmp 103]⟩,
  ⟨some 105, none, .op .id [.tmp 0]⟩,
  ⟨some 106, none, .call N.debuggersame_List_byte [.tmp 104, .tmp 105]⟩,
  ⟨some 107, none, .op .id [.tmp 106]⟩,
  ⟨some 108, some (107, true), .call N.debuggerlaw01_known []⟩,
  ⟨some 109, none, .op .pick [.tmp 107, .tmp 108, .val (.t (.bool false))]⟩,
  ⟨some 6, none, .op .id [.tmp 109]⟩]
abbrev debuggerlaw01_WireOwn.body : Cd := (.seq (.rgn debuggerlaw01_WireOwn.r0) (.seq (.seq (.rgn debuggerlaw01_WireOwn.r1) (.cond (.tmp 23) (.seq (.rgn debuggerlaw01_WireOwn.r2) .ret) .skip)) (.seq (.rgn debuggerlaw01_WireOwn.r3) (.seq (.rgn debuggerlaw01_WireOwn.r4) (.seq (.seq (.rgn debuggerlaw01_WireOwn.r5) (.block 0 (.loop debuggerlaw01_WireOwn.l0))) (.seq (.rgnD debuggerlaw01_WireOwn.d0) (.seq (.seq (.rgn debuggerlaw01_WireOwn.r9) (.block 2 (.loop debuggerlaw01_WireOwn.l1))) (.seq (.seq (.rgn debuggerlaw01_WireOwn.r13) (.block 4 (.loop debuggerlaw01_WireOwn.l2))) (.seq (.seq (.rgn debuggerlaw01_WireOwn.r17) (.block 6 (.loop debuggerlaw01_WireOwn.l3))) (.seq (.seq (.rgn debuggerlaw01_WireOwn.r21) (.block 8 (.loop debuggerlaw01_WireOwn.l4))) (.seq (.rgn debuggerlaw01_WireOwn.r26) .ret)))))))))))
def debuggerlaw01_WireOwn.af : AF := ⟨3, 110, [.tmp 6], debuggerlaw01_WireOwn.body⟩
theorem debuggerlaw01_WireOwn.ok : cFunc PP [] Try.f4 = some debuggerlaw01_WireOwn.af := by kernel_rfl
theorem debuggerlaw01_WireOwn.intro {args : List V} {H : Heap} {Q : V → Heap → Prop} (hlen : args.length ≤ 110) (h : wpC (SCall PP) H.length debuggerlaw01_WireOwn.body (exitK H.length [.tmp 6] Q) ⟨initVs 0 args, H⟩) : SCall PP N.debuggerlaw01_WireOwn args H Q :=
  SCall.intro Try.func4 (by kernel_rfl) debuggerlaw01_WireOwn.ok hlen h
/-! ### debugger/debuggerlaw01.WireReads -/
abbrev debuggerlaw01_WireReads.r0 : List Ins := [⟨some 4, none, .op .id [.val (.t (.bool false))]⟩]
abbrev debuggerlaw01_WireReads.r1 : List Ins := [⟨some 6, none, .op .id [.tmp 0]⟩,
  ⟨some 7, none, .op .len [.tmp 6]⟩,
  ⟨some 8, none, .op (.bin .gtr) [.tmp 7, .val (.t (.int .i64 200))]⟩]
abbrev debuggerlaw01_WireReads.r2 : List Ins := [⟨some 9, none, .op .id [.tmp 0]⟩,
  ⟨some 10, none, .op (.slice 1 false true) [.tmp 9, .val (.t (.int .i64 200))]⟩,
  ⟨some 0, none, .op .id [.tmp 10]⟩]
abbrev debuggerlaw01_WireReads.r3 : List Ins := [⟨some 5, none, .op .id [.val (.t (.int .i64 0))]⟩]
abbrev debuggerlaw01_WireReads.r4 : List Ins := [⟨some 11, none, .op .id [.tmp 5]⟩,
  ⟨some 12, none, .op .id [.tmp 0]⟩,
  ⟨some 13, none, .op .len [.tmp 12]⟩,
  ⟨some 14, none, .op (.bin .leq) [.tmp 11, .tmp 13]⟩]
abbrev debuggerlaw01_WireReads.r5 : List Ins := [⟨some 17, none, .op .id [.tmp 0]⟩,
  ⟨some 18, none, .op .id [.tmp 5]⟩,
  ⟨some 19, none, .call N.debuggerlaw01_reads [.tmp 17, .tmp 18]⟩,
  ⟨some 20, none, .op (.un .not) [.tmp 19]⟩]
abbrev debuggerlaw01_WireReads.r6 : List Ins := [⟨some 4, none, .op .id [.val (.t (.bool false))]⟩]
abbrev debuggerlaw01_WireReads.r7 : List Ins := [⟨some 15, none, .op .id [.tmp 5]⟩,
  ⟨some 16, none, .op (.bin .add) [.tmp 15, .val (.t (.int .i64 1))]⟩,
  ⟨some 5, none, .op .id [.tmp 16]⟩]
abbrev debuggerlaw01_WireReads.l0 : Cd := (.seq (.seq (.rgn debuggerlaw01_WireReads.r4) (.cond (.tmp 14) .skip (.exit 0))) (.seq (.block 1 (.seq (.rgn debuggerlaw01_WireReads.r5) (.cond (.tmp 20) (.seq (.rgn debuggerlaw01_WireReads.r6) .ret) .skip))) (.rgn debuggerlaw01_WireReads.r7)))
abbrev debuggerlaw01_WireReads.r8 : List Ins := [⟨some 21, none, .op .id [.tmp 0]⟩,
  ⟨some 22, none, .op .id [.tmp 1]⟩,
  ⟨some 23, none, .call N.debuggerlaw01_reads [.tmp 21, .tmp 22]⟩,
  ⟨some 24, none, .op .id [.tmp 23]⟩,
  ⟨some 25, some (24, true), .call N.debuggerlaw01_known []⟩,
  ⟨some 26, none, .op .pick [.tmp 24, .tmp 25, .val (.t (.bool false))]⟩,
  ⟨some 4, none, .op .id [.tmp 26]⟩]
abbrev debuggerlaw01_WireReads.body : Cd := (.seq (.rgn debuggerlaw01_WireReads.r0) (.seq (.seq (.rgn debuggerlaw01_WireReads.r1) (.cond (.tmp 8) (.rgn debuggerlaw01_WireReads.r2) .skip)) (.seq (.seq (.rgn debuggerlaw01_WireReads.r3) (.block 0 (.loop debuggerlaw01_WireReads.l0))) (.seq (.rgn debuggerlaw01_WireReads.r8) .ret))))
def debuggerlaw01_WireReads.af : AF := ⟨2, 27, [.tmp 4], debuggerlaw01_WireReads.body⟩
theorem debuggerlaw01_WireReads.ok : cFunc PP [] Try.f6 = some debuggerlaw01_WireReads.af := by kernel_rfl
theorem debuggerlaw01_WireReads.intro {args : List V} {H : Heap} {Q : V → Heap → Prop} (hlen : args.length ≤ 27) (h : wpC (SCall PP) H.length debuggerlaw01_WireReads.body (exitK H.length [.tmp 4] Q) ⟨initVs 0 args, H⟩) : SCall PP N.debuggerlaw01_WireReads args H Q :=
  SCall.intro Try.func6 (by kernel_rfl) debuggerlaw01_WireReads.ok hlen h
/-! ### debugger/debuggerlaw01.WireBack -/
abbrev debuggerlaw01_WireBack.r0 : List Ins := [⟨some 8, none, .op .id [.val (.t (.bool false))]⟩]
abbrev debuggerlaw01_WireBack.r1 : List Ins := [⟨some 22, none, .op .id [.tmp 0]⟩,
  ⟨some 23, none, .op .len [.tmp 22]⟩,
  ⟨some 24, none, .op (.bin .gtr) [.tmp 23, .val (.t (.int .i64 300))]⟩,
  ⟨some 25, none, .op .id [.tmp 24]⟩,
  ⟨some 26, some (25, false), .op .id [.tmp 2]⟩,
  ⟨some 27, some (25, false), .op .lenS [.tmp 26]⟩,
  ⟨some 28, some (25, false), .op (.bin .gtr) [.tmp 27, .val (.t (.int .i64 500))]⟩,
  ⟨some 29, none, .op .pick [.tmp 25, .val (.t (.bool true)), .tmp 28]⟩,
  ⟨some 30, none, .op .id [.tmp 29]⟩,
  ⟨some 31, some (30, false), .op .id [.tmp 3]⟩,
  ⟨some 32, some (30, false), .op .len [.tmp 31]⟩,
  ⟨some 33, some (30, false), .op (.bin .gtr) [.tmp 32, .val (.t (.int .i64 300))]⟩,
  ⟨some 34, none, .op .pick [.tmp 30, .val (.t (.bool true)), .tmp 33]⟩]
abbrev debuggerlaw01_WireBack.r2 : List Ins := [⟨some 35, none, .call N.debuggerlaw01_known []⟩,
  ⟨some 8, none, .op .id [.tmp 35]⟩]
abbrev debuggerlaw01_WireBack.r3 : List Ins := [⟨some 36, none, .op .id [.tmp 1]⟩,
  ⟨some 37, none, .op (.bin .and) [.tmp 36, .val (.t (.int .i64 9223372036854775807))]⟩,
  ⟨some 9, none, .op .id [.tmp 37]⟩]
abbrev debuggerlaw01_WireBack.r4 : List Ins := [⟨some 38, none, .op .id [.tmp 0]⟩,
  ⟨some 39, none, .op .id [.tmp 9]⟩,
  ⟨some 40, none, .call N.wire_AppendUint [.tmp 38, .tmp 39]⟩,
  ⟨some 41, none, .op .id [.tmp 3]⟩,
  ⟨some 42, none, .op (.append 1 1) [.tmp 40, .tmp 41]⟩,
  ⟨some 10, none, .op .id [.tmp 42]⟩]
abbrev debuggerlaw01_WireBack.r5 : List Ins := [⟨some 43, none, .op .id [.tmp 0]⟩,
  ⟨some 44, none, .op .id [.tmp 1]⟩,
  ⟨some 45, none, .call N.wire_AppendInt [.tmp 43, .tmp 44]⟩,
  ⟨some 46, none, .op .id [.tmp 3]⟩,
  ⟨some 47, none, .op (.append 1 1) [.tmp 45, .tmp 46]⟩,
  ⟨some 11, none, .op .id [.tmp 47]⟩]
abbrev debuggerlaw01_WireBack.r6 : List Ins := [⟨some 48, none, .op .id [.tmp 0]⟩,
  ⟨some 49, none, .op .id [.tmp 2]⟩,
  ⟨some 50, none, .call N.wire_AppendText [.tmp 48, .tmp 49]⟩,
  ⟨some 51, none, .op .id [.tmp 3]⟩,
  ⟨some 52, none, .op (.append 1 1) [.tmp 50, .tmp 51]⟩,
  ⟨some 12, none, .op .id [.tmp 52]⟩]
abbrev debuggerlaw01_WireBack.r7 : List Ins := [⟨some 54, none, .op .id [.tmp 10]⟩,
  ⟨some 55, none, .op .id [.tmp 0]⟩,
  ⟨some 56, none, .op .len [.tmp 55]⟩,
  ⟨some 57, none, .call N.wire_Uint [.tmp 54, .tmp 56]⟩,
  ⟨some 53, none, .op .id [.tmp 57]⟩,
  ⟨some 58, none, .op (.extract 0) [.tmp 53]⟩,
  ⟨some 59, none, .op (.extract 1) [.tmp 53]⟩,
  ⟨some 60, none, .op (.extract 2) [.tmp 53]⟩,
  ⟨some 13, none, .op .id [.tmp 58]⟩,
  ⟨some 14, none, .op .id [.tmp 59]⟩,
  ⟨some 15, none, .op .id [.tmp 60]⟩]
abbrev debuggerlaw01_WireBack.r8 : List Ins := [⟨some 62, none, .op .id [.tmp 11]⟩,
  ⟨some 63, none, .op .id [.tmp 0]⟩,
  ⟨some 64, none, .op .len [.tmp 63]⟩,
  ⟨some 65, none, .call N.wire_Int [.tmp 62, .tmp 64]⟩,
  ⟨some 61, none, .op .id [.tmp 65]⟩,
  ⟨some 66, none, .op (.extract 0) [.tmp 61]⟩,
  ⟨some 67, none, .op (.extract 1) [.tmp 61]⟩,
  ⟨some 68, none, .op (.extract 2) [.tmp 61]⟩,
  ⟨some 16, none, .op .id [.tmp 66]⟩,
  ⟨some 17, none, .op .id [.tmp 67]⟩,
  ⟨some 18, none, .op .id [.tmp 68]⟩]
abbrev debuggerlaw01_WireBack.r9 : List Ins := [⟨some 70, none, .op .id [.tmp 12]⟩,
  ⟨some 71, none, .op .id [.tmp 0]⟩,
  ⟨some 72, none, .op .len [.tmp 71]⟩,
  ⟨some 73, none, .call N.wire_Text [.tmp 70, .tmp 72]⟩,
  ⟨some 69, none, .op .id [.tmp 73]⟩,
  ⟨some 74, none, .op (.extract 0) [.tmp 69]⟩,
  ⟨some 75, none, .op (.extract 1) [.tmp 69]⟩,
  ⟨some 76, none, .op (.extract 2) [.tmp 69]⟩,
  ⟨some 19, none, .op .id [.tmp 74]⟩,
  ⟨some 20, none, .op .id [.tmp 75]⟩,
  ⟨some 21, none, .op .id [.tmp 76]⟩]
abbrev debuggerlaw01_WireBack.r10 : List Ins := [⟨some 77, none, .op .id [.tmp 15]⟩,
  ⟨some 78, none, .op (.bin .eql) [.tmp 77, .val (.t (.int .i64 0))]⟩,
  ⟨some 79, none, .op .id [.tmp 78]⟩,
  ⟨some 80, some (79, true), .op .id [.tmp 13]⟩,
  ⟨some 81, some (79, true), .op .id [.tmp 9]⟩,
  ⟨some 82, some (79, true), .op (.bin .eql) [.tmp 80, .tmp 81]⟩,
  ⟨some 83, none, .op .pick [.tmp 79, .tmp 82, .val (.t (.bool false))]⟩,
  ⟨some 84, none, .op .id [.tmp 83]⟩,
  ⟨some 85, some (84, true), .op .id [.tmp 14]⟩,
  ⟨some 86, some (84, true), .op .id [.tmp 10]⟩,
  ⟨some 87, some (84, true), .op .len [.tmp 86]⟩,
  ⟨some 88, some (84, true), .op .id [.tmp 3]⟩,
  ⟨some 89, some (84, true), .op .len [.tmp 88]⟩,
  ⟨some 90, some (84, true), .op (.bin .sub) [.tmp 87, .tmp 89]⟩,
  ⟨some 91, some (84, true), .op (.bin .eql) [.tmp 85, .tmp 90]⟩,
  ⟨some 92, none, .op .pick [.tmp 84, .tmp 91, .val (.t (.bool false))]⟩,
  ⟨some 93, none, .op .id [.tmp 92]⟩,
  ⟨some 94, some (93, true), .op .id [.tmp 18]⟩,
  ⟨some 95, some (93, true), .op (.bin .eql) [.tmp 94, .val (.t (.int .i64 0))]⟩,
  ⟨some 96, none, .op .pick [.tmp 93, .tmp 95, .val (.t (.bool false))]⟩,
  ⟨some 97, none, .op .id [.tmp 96]⟩,
  ⟨some 98, some (97, true), .op .id [.tmp 16]⟩,
  ⟨some 99, some (97, true), .op .id [.tmp 1]⟩,
  ⟨some 100, some (97, true), .op (.bin .eql) [.tmp 98, .tmp 99]⟩,
  ⟨some 101, none, .op .pick [.tmp 97, .tmp 100, .val (.t (.bool false))]⟩,
  ⟨some 102, none, .op .id [.tmp 101]⟩,
  ⟨some 103, some (102, true), .op .id [.tmp 17]⟩,
  ⟨some 104, some (102, true), .op .id [.tmp 11]⟩,
  ⟨some 105, some (102, true), .op .len [.tmp 104]⟩,
  ⟨some 106, some (102, true), .op .id [.tmp 3]⟩,
  ⟨some 107, some (102, true), .op .len [.tmp 106]⟩,
  ⟨some 108, some (102, true), .op (.bin .sub) [.tmp 105, .tmp 107]⟩,
  ⟨some 109, some (102, true), .op (.bin .eql) [.tmp 103, .tmp 108]⟩,
  ⟨some 110, none, .op .pick [.tmp 102, .tmp 109, .val (.t (.bool false))]⟩,
  ⟨some 111, none, .op .id [.tmp 110]⟩,
  ⟨some 112, some (111, true), .op .id [.tmp 21]⟩,
  ⟨some 113, some (111, true), .op (.bin .eql) [.tmp 112, .val (.t (.int .i64 0))]⟩,
  ⟨some 114, none, .op .pick [.tmp 111, .tmp 113, .val (.t (.bool false))]⟩,
  ⟨some 115, none, .op .id [.tmp 114]⟩,
  ⟨some 116, some (115, true), .op .id [.tmp 19]⟩,
  ⟨some 117, some (115, true), .op .id [.tmp 2]⟩,
  ⟨some 118, some (115, true), .op (.bin .eql) [.tmp 116, .tmp 117]⟩,
  ⟨some 119, none, .op .pick [.tmp 115, .tmp 118, .val (.t (.bool false))]⟩,
  ⟨some 120, none, .op .id [.tmp 119]⟩,
  ⟨some 121, some (120, true), .op .id [.tmp 20]⟩,
  ⟨some 122, some (120, true), .op .id [.tmp 12]⟩,
  ⟨some 123, some (120, true), .op .len [.tmp 122]⟩,
  ⟨some 124, some (120, true), .op .id [.tmp 3]⟩,
  ⟨some 125, some (120, true), .op .len [.tmp 124]⟩,
  ⟨some 126, some (120, true), .op (.bin .sub) [.tmp 123, .tmp 125]⟩,
  ⟨some 127, some (120, true), .op (.bin .eql) [.tmp 121, .tmp 126]⟩,
  ⟨some 128, none, .op .pick [.tmp 120, .tmp 127, .val (.t (.bool false))]⟩,
  ⟨some 129, none, .op .id [.tmp 128]⟩,
  ⟨some 130, some (129, true), .call N.debuggerlaw01_known []⟩,
  ⟨some 131, none, .op .pick [.tmp 129, .tmp 130, .val (.t (.bool false))]⟩,
  ⟨some 8, none, .op .id [.tmp 131]⟩]
abbrev debuggerlaw01_WireBack.body : Cd := (.seq (.rgn debuggerlaw01_WireBack.r0) (.seq (.seq (.rgn debuggerlaw01_WireBack.r1) (.cond (.tmp 34) (.seq (.rgn debuggerlaw01_WireBack.r2) .ret) .skip)) (.seq (.rgn debuggerlaw01_WireBack.r3) (.seq (.rgn debuggerlaw01_WireBack.r4) (.seq (.rgn debuggerlaw01_WireBack.r5) (.seq (.rgn debuggerlaw01_WireBack.r6) (.seq (.rgn debuggerlaw01_WireBack.r7) (.seq (.rgn debuggerlaw01_WireBack.r8) (.seq (.rgn debuggerlaw01_WireBack.r9) (.seq (.rgn debuggerlaw01_WireBack.r10) .ret))))))))))
def debuggerlaw01_WireBack.af : AF := ⟨4, 132, [.tmp 8], debuggerlaw01_WireBack.body⟩
theorem debuggerlaw01_WireBack.ok : cFunc PP [] Try.f7 = some debuggerlaw01_WireBack.af := by kernel_rfl
theorem debuggerlaw01_WireBack.intro {args : List V} {H : Heap} {Q : V → Heap → Prop} (hlen : args.length ≤ 132) (h : wpC (SCall PP) H.length debuggerlaw01_WireBack.body (exitK H.length [.tmp 8] Q) ⟨initVs 0 args, H⟩) : SCall PP N.debuggerlaw01_WireBack args H Q :=
  SCall.intro Try.func7 (by kernel_rfl) debuggerlaw01_WireBack.ok hlen h
/-! ### debugger/debuggerlaw01.known -/
abbrev debuggerlaw01_known.r0 : List Ins := [⟨some 0, none, .op .id [.val (.t (.bool false))]⟩]
abbrev debuggerlaw01_known.r1 : List Ins := [⟨some 8, none, .call N.wire_AppendUint [.val (.t (.lst 0 true [])), .val (.t (.int .i64 300))]⟩,
  ⟨some 9, none, .call N.wire_AppendInt [.tmp 8, .val (.t (.int .i64 (-3)))]⟩,
  ⟨some 1, none, .op .id [.tmp 9]⟩]
abbrev debuggerlaw01_known.r2 : List Ins := [⟨some 11, none, .op .id [.tmp 1]⟩,
  ⟨some 12, none, .call N.wire_Uint [.tmp 11, .val (.t (.int .i64 0))]⟩,
  ⟨some 10, none, .op .id [.tmp 12]⟩,
  ⟨some 13, none, .op (.extract 0) [.tmp 10]⟩,
  ⟨some 14, none, .op (.extract 1) [.tmp 10]⟩,
  ⟨some 15, none, .op (.extract 2) [.tmp 10]⟩,
  ⟨some 2, none, .op .id [.tmp 13]⟩,
  ⟨some 3, none, .op .id [.tmp 14]⟩,
  ⟨some 4, none, .op .id [.tmp 15]⟩]
abbrev debuggerlaw01_known.r3 : List Ins := [⟨some 17, none, .op .id [.tmp 1]⟩,
  ⟨some 18, none, .op .id [.tmp 3]⟩,
  ⟨some 19, none, .call N.wire_Int [.tmp 17, .tmp 18]⟩,
  ⟨some 16, none, .op .id [.tmp 19]⟩,
  ⟨some 20, none, .op (.extract 0) [.tmp 16]⟩,
  ⟨some 21, none, .op (.extract 1) [.tmp 16]⟩,
  ⟨some 22, none, .op (.extract 2) [.tmp 16]⟩,
  ⟨some 5, none, .op .id [.tmp 20]⟩,
  ⟨some 6, none, .op .id [.tmp 21]⟩,
  ⟨some 7, none, .op .id [.tmp 22]⟩]
abbrev debuggerlaw01_known.r4 : List Ins := [⟨some 23, none, .op .id [.tmp 1]⟩,
  ⟨some 24, none, .op (.buildSlice 1 (.int .u8 0) 3 [0, 1, 2]) [.val (.t (.int .u8 172)), .val (.t (.int .u8 2)), .val (.t (.int .u8 5))]⟩,
  ⟨some 25, none, .call N.debuggersame_List_byte [.tmp 23, .tmp 24]⟩,
  ⟨some 26, none, .op .id [.tmp 25]⟩,
  ⟨some 27, some (26, true), .op .id [.tmp 2]⟩,
  ⟨some 28, some (26, true), .op (.bin .eql) [.tmp 27, .val (.t (.int .i64 300))]⟩,
  ⟨some 29, none, .op .pick [.tmp 26, .tmp 28, .val (.t (.bool false))]⟩,
  ⟨some 30, none, .op .id [.tmp 29]⟩,
  ⟨some 31, some (30, true), .op .id [.tmp 3]⟩,
  ⟨some 32, some (30, true), .op (.bin .eql) [.tmp 31, .val (.t (.int .i64 2))]⟩,
  ⟨some 33, none, .op .pick [.tmp 30, .tmp 32, .val (.t (.bool false))]⟩,
  ⟨some 34, none, .op .id [.tmp 33]⟩,
  ⟨some 35, some (34, true), .op .id [.tmp 4]⟩,
  ⟨some 36, some (34, true), .op (.bin .eql) [.tmp 35, .val (.t (.int .i64 0))]⟩,
  ⟨some 37, none, .op .pick [.tmp 34, .tmp 36, .val (.t (.bool false))]⟩,
  ⟨some 38, none, .op .id [.tmp 37]⟩,
  ⟨some 39, some (38, true), .op .id [.tmp 5]⟩,
  ⟨some 40, some (38, true), .op (.bin .eql) [.tmp 39, .val (.t (.int .i64 (-3)))]⟩,
  ⟨some 41, none, .op .pick [.tmp 38, .tmp 40, .val (.t (.bool false))]⟩,
  ⟨some 42, none, .op .id [.tmp 41]⟩,
  ⟨some 43, some (42, true), .op .id [.tmp 6]⟩,
  ⟨some 44, some (42, true), .op (.bin .eql) [.tmp 43, .val (.t (.int .i64 3))]⟩,
  ⟨some 45, none, .op .pick [.tmp 42, .tmp 44, .val (.t (.bool false))]⟩,
  ⟨some 46, none, .op .id [.tmp 45]⟩,
  ⟨some 47, some (46, true), .op .id [.tmp 7]⟩,
  ⟨some 48, some (46, true), .op (.bin .eql) [.tmp 47, .val (.t (.int .i64 0))]⟩,
  ⟨some 49, none, .op .pick [.tmp 46, .tmp 48, .val (.t (.bool false))]⟩,
  ⟨some 0, none, .op .id [.tmp 49]⟩]
abbrev debuggerlaw01_known.body : Cd := (.seq (.rgn debuggerlaw01_known.r0) (.seq (.rgn debuggerlaw01_known.r1) (.seq (.rgn debuggerlaw01_known.r2) (.seq (.rgn debuggerlaw01_known.r3) (.seq (.rgn debuggerlaw01_known.r4) .ret)))))
def debuggerlaw01_known.af : AF := ⟨0, 50, [.tmp 0], debuggerlaw01_known.body⟩
theorem debuggerlaw01_known.ok : cFunc PP [] Try.f17 = some debuggerlaw01_known.af := by kernel_rfl
theorem debuggerlaw01_known.intro {args : List V} {H : Heap} {Q : V → Heap → Prop} (hlen : args.length ≤ 50) (h : wpC (SCall PP) H.length debuggerlaw01_known.body (exitK H.length [.tmp 0] Q) ⟨initVs 0 args, H⟩) : SCall PP N.debuggerlaw01_known args H Q :=
  SCall.intro Try.func17 (by kernel_rfl) debuggerlaw01_known.ok hlen h
/-! ### debugger/debuggerlaw01.reads -/
abbrev debuggerlaw01_reads.r0 : List Ins := [⟨some 4, none, .op .id [.val (.t (.bool false))]⟩]
abbrev debuggerlaw01_reads.r1 : List Ins := [⟨some 14, none, .op .id [.tmp 0]⟩,
  ⟨some 15, none, .op .id [.tmp 1]⟩,
  ⟨some 16, none, .call N.wire_Uint [.tmp 14, .tmp 15]⟩,
  ⟨some 13, none, .op .id [.tmp 16]⟩,
  ⟨some 17, none, .op (.extract 0) [.tmp 13]⟩,
  ⟨some 18, none, .op (.extract 1) [.tmp 13]⟩,
  ⟨some 19, none, .op (.extract 2) [.tmp 13]⟩,
  ⟨some 5, none, .op .id [.tmp 17]⟩,
  ⟨some 6, none, .op .id [.tmp 18]⟩,
  ⟨some 7, none, .op .id [.tmp 19]⟩]
abbrev debuggerlaw01_reads.r2 : List Ins := [⟨some 21, none, .op .id [.tmp 0]⟩,
  ⟨some 22, none, .op .id [.tmp 1]⟩,
  ⟨some 23, none, .call N.debuggerref01_Uint [.tmp 21, .tmp 22]⟩,
  ⟨some 20, none, .op .id [.tmp 23]⟩,
  ⟨some 24, none, .op (.extract 0) [.tmp 20]⟩,
  ⟨some 25, none, .op (.extract 1) [.tmp 20]⟩,
  ⟨some 26, none, .op (.extract 2) [.tmp 20]⟩,
  ⟨some 8, none, .op .id [.tmp 24]⟩,
  ⟨some 9, none, .op .id [.tmp 25]⟩,
  ⟨some 10, none, .op .id [.tmp 26]⟩]
abbrev debuggerlaw01_reads.r3 : List Ins := [⟨some 27, none, .op .id [.tmp 5]⟩,
  ⟨some 28, none, .op .id [.tmp 8]⟩,
  ⟨some 29, none, .op (.bin .neq) [.tmp 27, .tmp 28]⟩,
  ⟨some 30, none, .op .id [.tmp 29]⟩,
  ⟨some 31, some (30, false), .op .id [.tmp 6]⟩,
  ⟨some 32, some (30, false), .op .id [.tmp 9]⟩,
  ⟨some 33, some (30, false), .op (.bin .neq) [.tmp 31, .tmp 32]⟩,
  ⟨some 34, none, .op .pick [.tmp 30, .val (.t (.bool true)), .tmp 33]⟩,
  ⟨some 35, none, .op .id [.tmp 34]⟩,
  ⟨some 36, some (35, false), .op .id [.tmp 7]⟩,
  ⟨some 37, some (35, false), .op .id [.tmp 10]⟩,
  ⟨some 38, some (35, false), .op (.bin .neq) [.tmp 36, .tmp 37]⟩,
  ⟨some 39, none, .op .pick [.tmp 35, .val (.t (.bool true)), .tmp 38]⟩]
abbrev debuggerlaw01_reads.r4 : List Ins := [⟨some 4, none, .op .id [.val (.t (.bool false))]⟩]
abbrev debuggerlaw01_reads.r5 : List Ins := [⟨some 41, none, .op .id [.tmp 0]⟩,
  ⟨some 42, none, .op .id [.tmp 1]⟩,
  ⟨some 43, none, .call N.wire_Int [.tmp 41, .tmp 42]⟩,
  ⟨some 40, none, .op .id [.tmp 43]⟩,
  ⟨some 44, none, .op (.extract 0) [.tmp 40]⟩,
  ⟨some 45, none, .op (.extract 1) [.tmp 40]⟩,
  ⟨some 46, none, .op (.extract 2) [.tmp 40]⟩,
  ⟨some 5, none, .op .id [.tmp 44]⟩,
  ⟨some 6, none, .op .id [.tmp 45]⟩,
  ⟨some 7, none, .op .id [.tmp 46]⟩]
abbrev debuggerlaw01_reads.r6 : List Ins := [⟨some 48, none, .op .id [.tmp 0]⟩,
  ⟨some 49, none, .op .id [.tmp 1]⟩,
  ⟨some 50, none, .call N.debuggerref01_Int [.tmp 48, .tmp 49]⟩,
  ⟨some 47, none, .op .id [.tmp 50]⟩,
  ⟨some 51, none, .op (.extract 0) [.tmp 47]⟩,
  ⟨some 52, none, .op (.extract 1) [.tmp 47]⟩,
  ⟨some 53, none, .op (.extract 2) [.tmp 47]⟩,
  ⟨some 8, none, .op .id [.tmp 51]⟩,
  ⟨some 9, none, .op .id [.tmp 52]⟩,
  ⟨some 10, none, .op .id [.tmp 53]⟩]
abbrev debuggerlaw01_reads.r7 : List Ins := [⟨some 54, none, .op .id [.tmp 5]⟩,
  ⟨some 55, none, .op .id [.tmp 8]⟩,
  ⟨some 56, none, .op (.bin .neq) [.tmp 54, .tmp 55]⟩,
  ⟨some 57, none, .op .id [.tmp 56]⟩,
  ⟨some 58, some (57, false), .op .id [.tmp 6]⟩,
  ⟨some 59, some (57, false), .op .id [.tmp 9]⟩,
  ⟨some 60, some (57, false), .op (.bin .neq) [.tmp 58, .tmp 59]⟩,
  ⟨some 61, none, .op .pick [.tmp 57, .val (.t (.bool true)), .tmp 60]⟩,
  ⟨some 62, none, .op .id [.tmp 61]⟩,
  ⟨some 63, some (62, false), .op .id [.tmp 7]⟩,
  ⟨some 64, some (62, false), .op .id [.tmp 10]⟩,
  ⟨some 65, some (62, false), .op (.bin .neq) [.tmp 63, .tmp 64]⟩,
  ⟨some 66, none, .op .pick [.tmp 62, .val (.t (.bool true)), .tmp 65]⟩]
abbrev debuggerlaw01_reads.r8 : List Ins := [⟨some 4, none, .op .id [.val (.t (.bool false))]⟩]
abbrev debuggerlaw01_reads.r9 : List Ins := [⟨some 68, none, .op .id [.tmp 0]⟩,
  ⟨some 69, none, .op .id [.tmp 1]⟩,
  ⟨some 70, none, .call N.wire_Text [.tmp 68, .tmp 69]⟩,
  ⟨some 67, none, .op .id [.tmp 70]⟩,
  ⟨some 71, none, .op (.extract 0) [.tmp 67]⟩,
  ⟨some 72, none, .op (.extract 1) [.tmp 67]⟩,
  ⟨some 73, none, .op (.extract 2) [.tmp 67]⟩,
  ⟨some 11, none, .op .id [.tmp 71]⟩,
  ⟨some 6, none, .op .id [.tmp 72]⟩,
  ⟨some 7, none, .op .id [.tmp 73]⟩]
abbrev debuggerlaw01_reads.r10 : List Ins := [⟨some 75, none, .op .id [.tmp 0]⟩,
  ⟨some 76, none, .op .id [.tmp 1]⟩,
  ⟨some 77, none, .call N.debuggerref01_Text [.tmp 75, .tmp 76]⟩,
  ⟨some 74, none, .op .id [.tmp 77]⟩,
  ⟨some 78, none, .op (.extract 0) [.tmp 74]⟩,
  ⟨some 79, none, .op (.extract 1) [.tmp 74]⟩,
  ⟨some 80, none, .op (.extract 2) [.tmp 74]⟩,
  ⟨some 12, none, .op .id [.tmp 78]⟩,
  ⟨some 9, none, .op .id [.tmp 79]⟩,
  ⟨some 10, none, .op .id [.tmp 80]⟩]
abbrev debuggerlaw01_reads.r11 : List Ins := [⟨some 81, none, .op .id [.tmp 11]⟩,
  ⟨some 82, none, .op .id [.tmp 12]⟩,
  ⟨some 83, none, .op (.bin .eql) [.tmp 81, .tmp 82]⟩,
  ⟨some 84, none, .op .id [.tmp 83]⟩,
  ⟨some 85, some (84, true), .op .id [.tmp 6]⟩,
  ⟨some 86, some (84, true), .op .id [.tmp 9]⟩,
  ⟨some 87, some (84, true), .op (.bin .eql) [.tmp 85, .tmp 86]⟩,
  ⟨some 88, none, .op .pick [.tmp 84, .tmp 87, .val (.t (.bool false))]⟩,
  ⟨some 89, none, .op .id [.tmp 88]⟩,
  ⟨some 90, some (89, true), .op .id [.tmp 7]⟩,
  ⟨some 91, some (89, true), .op .id [.tmp 10]⟩,
  ⟨some 92, some (89, true), .op (.bin .eql) [.tmp 90, .tmp 91]⟩,
  ⟨some 93, none, .op .pick [.tmp 89, .tmp 92, .val (.t (.bool false))]⟩,
  ⟨some 4, none, .op .id [.tmp 93]⟩]
abbrev debuggerlaw01_reads.body : Cd := (.seq (.rgn debuggerlaw01_reads.r0) (.seq (.rgn debuggerlaw01_reads.r1) (.seq (.rgn debuggerlaw01_reads.r2) (.seq (.seq (.rgn debuggerlaw01_reads.r3) (.cond (.tmp 39) (.seq (.rgn debuggerlaw01_reads.r4) .ret) .skip)) (.seq (.rgn debuggerlaw01_reads.r5) (.seq (.rgn debuggerlaw01_reads.r6) (.seq (.seq (.rgn debuggerlaw01_reads.r7) (.cond (.tmp 66) (.seq (.rgn debuggerlaw01_reads.r8) .ret) .skip)) (.seq (.rgn debuggerlaw01_reads.r9) (.seq (.rgn debuggerlaw01_reads.r10) (.seq (.rgn debuggerlaw01_reads.r11) .ret))))))))))
def debuggerlaw01_reads.af : AF := ⟨2, 94, [.tmp 4], debuggerlaw01_reads.body⟩
theorem debuggerlaw01_reads.ok : cFunc PP [] Try.f28 = some debuggerlaw01_reads.af := by kernel_rfl
theorem debuggerlaw01_reads.intro {args : List V} {H : Heap} {Q : V → Heap → Prop} (hlen : args.length ≤ 94) (h : wpC (SCall PP) H.length debuggerlaw01_reads.body (exitK H.length [.tmp 4] Q) ⟨initVs 0 args, H⟩) : SCall PP N.debuggerlaw01_reads args H Q :=
  SCall.intro Try.func28 (by kernel_rfl) debuggerlaw01_reads.ok hlen h
end Go.Proofs.Ytljjabccgbakgaa
