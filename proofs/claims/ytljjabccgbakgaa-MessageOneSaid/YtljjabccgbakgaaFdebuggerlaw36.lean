/- The functions of package debuggerlaw36 as the code of the abstract machine. Written by a program of the session. -/
import Derived.Test.YtljjabccgbakgaaFn
namespace Go.Proofs.Ytljjabccgbakgaa
open Go Go.Abs
set_option maxRecDepth 100000
/-! ### debugger/debuggerlaw36.MessageCommands -/
abbrev debuggerlaw36_MessageCommands.r0 : List Ins := [⟨some 2, none, .op .box [.tmp 0]⟩,
  ⟨some 4, none, .op .id [.val (.t (.bool false))]⟩]
abbrev debuggerlaw36_MessageCommands.r1 : List Ins := [⟨some 14, none, .op (.fieldA 4) [.tmp 2]⟩,
  ⟨some 15, none, .op .load1 [.tmp 14]⟩,
  ⟨some 16, none, .op .len [.tmp 15]⟩,
  ⟨some 17, none, .op (.bin .gtr) [.tmp 16, .val (.t (.int .i64 400))]⟩]
abbrev debuggerlaw36_MessageCommands.r2 : List Ins := [⟨some 18, none, .call N.debuggerlaw36_awake []⟩,
  ⟨some 4, none, .op .id [.tmp 18]⟩]
abbrev debuggerlaw36_MessageCommands.r3 : List Ins := [⟨some 19, none, .op (.loadN 5) [.tmp 2]⟩,
  ⟨some 5, none, .op (.alloc [(.int .i64 0), (.int .i64 0), (.int .i64 0), (.int .i64 0), (.lst 0 true [])]) []⟩,
  ⟨none, none, .op (.store 5) [.tmp 5, .tmp 19]⟩]
abbrev debuggerlaw36_MessageCommands.r4 : List Ins := [⟨some 20, none, .op .id [.tmp 1]⟩,
  ⟨some 21, none, .call N.debuggerkit_Mod [.tmp 20, .val (.t (.int .i64 4))]⟩,
  ⟨some 22, none, .op (.bin .add) [.val (.t (.int .i64 126)), .tmp 21]⟩,
  ⟨some 23, none, .op (.makeSlice 1 8 (.int .i64 0)) [.tmp 22, .tmp 22]⟩,
  ⟨some 24, none, .op (.fieldA 4) [.tmp 5]⟩,
  ⟨none, none, .op (.store 1) [.tmp 24, .tmp 23]⟩]
abbrev debuggerlaw36_MessageCommands.r5 : List Ins := [⟨some 25, none, .op (.loadN 5) [.tmp 2]⟩,
  ⟨some 26, none, .op (.loadN 5) [.tmp 5]⟩,
  ⟨some 27, none, .op (.buildSlice 5 (.agg [(.int .i64 0), (.int .i64 0), (.int .i64 0), (.int .i64 0), (.lst 0 true [])]) 2 [0, 1]) [.tmp 25, .tmp 26]⟩,
  ⟨some 28, none, .op .len [.tmp 27]⟩,
  ⟨some 29, none, .op .id [.val (.t (.int .i64 0))]⟩]
abbrev debuggerlaw36_MessageCommands.r6 : List Ins := [⟨some 30, none, .op (.bin .lss) [.tmp 29, .tmp 28]⟩]
abbrev debuggerlaw36_MessageCommands.r7 : List Ins := [⟨some 31, none, .op (.idxS 5) [.tmp 27, .tmp 29]⟩,
  ⟨some 32, none, .op (.loadN 5) [.tmp 31]⟩,
  ⟨some 7, none, .op (.alloc [(.int .i64 0), (.int .i64 0), (.int .i64 0), (.int .i64 0), (.lst 0 true [])]) []⟩,
  ⟨none, none, .op (.store 5) [.tmp 7, .tmp 32]⟩]
abbrev debuggerlaw36_MessageCommands.r8 : List Ins := [⟨some 34, none, .op (.loadN 5) [.tmp 7]⟩,
  ⟨some 35, none, .call N.message_EncodeCommand [.tmp 34]⟩,
  ⟨some 33, none, .op .id [.tmp 35]⟩,
  ⟨some 36, none, .op (.extract 0) [.tmp 33]⟩,
  ⟨some 37, none, .op (.extract 1) [.tmp 33]⟩,
  ⟨some 8, none, .op .id [.tmp 36]⟩,
  ⟨some 9, none, .op .id [.tmp 37]⟩]
abbrev debuggerlaw36_MessageCommands.r9 : List Ins := [⟨some 39, none, .op (.loadN 5) [.tmp 7]⟩,
  ⟨some 40, none, .call N.debuggerref36_EncodeCommand [.tmp 39]⟩,
  ⟨some 38, none, .op .id [.tmp 40]⟩,
  ⟨some 41, none, .op (.extract 0) [.tmp 38]⟩,
  ⟨some 42, none, .op (.extract 1) [.tmp 38]⟩,
  ⟨some 10, none, .op .id [.tmp 41]⟩,
  ⟨some 11, none, .op .id [.tmp 42]⟩]
abbrev debuggerlaw36_MessageCommands.r10 : List Ins := [⟨some 43, none, .op .id [.tmp 9]⟩,
  ⟨some 44, none, .op .id [.tmp 11]⟩,
  ⟨some 45, none, .op (.bin .neq) [.tmp 43, .tmp 44]⟩,
  ⟨some 46, none, .op .id [.tmp 45]⟩,
  ⟨some 47, some (46, false), .op .id [.tmp 8]⟩,
  ⟨some 48, some (46, false), .op .toStr [.tmp 47]⟩,
  ⟨some 49, some (46, false), .op .id [.tmp 10]⟩,
  ⟨some 50, some (46, false), .op .toStr [.tmp 49]⟩,
  ⟨some 51, some (46, false), .op (.bin .neq) [.tmp 48, .tmp 50]⟩,
  ⟨some 52, none, .op .pick [.tmp 46, .val (.t (.bool true)), .tmp 51]⟩]
abbrev debuggerlaw36_MessageCommands.r11 : List Ins := [⟨some 4, none, .op .id [.val (.t (.bool false))]⟩]
abbrev debuggerlaw36_MessageCommands.r12 : List Ins := [⟨some 53, none, .op .id [.tmp 11]⟩,
  ⟨some 54, none, .op (.bin .eql) [.tmp 53, .val (.t (.int .i64 0))]⟩]
abbrev debuggerlaw36_MessageCommands.r13 : List Ins := [⟨some 56, none, .op .id [.tmp 10]⟩,
  ⟨some 57, none, .call N.message_DecodeCommand [.tmp 56]⟩,
  ⟨some 55, none, .op .id [.tmp 57]⟩,
  ⟨some 58, none, .op (.extract 0) [.tmp 55]⟩,
  ⟨some 59, none, .op (.extract 1) [.tmp 55]⟩,
  ⟨some 12, none, .op (.alloc [(.int .i64 0), (.int .i64 0), (.int .i64 0), (.int .i64 0), (.lst 0 true [])]) []⟩,
  ⟨none, none, .op (.store 5) [.tmp 12, .tmp 58]⟩,
  ⟨some 13, none, .op .id [.tmp 59]⟩]
abbrev debuggerlaw36_MessageCommands.r14 : List Ins := [⟨some 60, none, .op .id [.tmp 13]⟩,
  ⟨some 61, none, .op (.bin .neq) [.tmp 60, .val (.t (.int .i64 0))]⟩,
  ⟨some 62, none, .op .id [.tmp 61]⟩,
  ⟨some 63, some (62, false), .op (.loadN 5) [.tmp 7]⟩,
  ⟨some 64, some (62, false), .op (.loadN 5) [.tmp 12]⟩,
  ⟨some 65, some (62, false), .call N.debuggerequal_SameCommand [.tmp 63, .tmp 64]⟩,
  ⟨some 66, some (62, false), .op (.un .not) [.tmp 65]⟩,
  ⟨some 67, none, .op .pick [.tmp 62, .val (.t (.bool true)), .tmp 66]⟩]
abbrev debuggerlaw36_MessageCommands.r15 : List Ins := [⟨some 4, none, .op .id [.val (.t (.bool false))]⟩]
abbrev debuggerlaw36_MessageCommands.r16 : List Ins := [⟨some 68, none, .op (.bin .add) [.tmp 29, .val (.t (.int .i64 1))]⟩,
  ⟨some 29, none, .op .id [.tmp 68]⟩]
abbrev debuggerlaw36_MessageCommands.l0 : Cd := (.seq (.rgn debuggerlaw36_MessageCommands.r6) (.seq (.cond (.tmp 30) .skip (.exit 0)) (.seq (.block 1 (.seq (.rgn debuggerlaw36_MessageCommands.r7) (.seq (.rgn debuggerlaw36_MessageCommands.r8) (.seq (.rgn debuggerlaw36_MessageCommands.r9) (.seq (.seq (.rgn debuggerlaw36_MessageCommands.r10) (.cond (.tmp 52) (.seq (.rgn debuggerlaw36_MessageCommands.r11) .ret) .skip)) (.seq (.rgn debuggerlaw36_MessageCommands.r12) (.cond (.tmp 54) (.seq (.rgn debuggerlaw36_MessageCommands.r13) (.seq (.rgn debuggerlaw36_MessageCommands.r14) (.cond (.tmp 67) (.seq (.rgn debuggerlaw36_MessageCommands.r15) .ret) .skip))) .skip))))))) (.rgn debuggerlaw36_MessageCommands.r16))))
abbrev debuggerlaw36_MessageCommands.r17 : List Ins := [⟨some 69, none, .call N.debuggerlaw36_awake []⟩,
  ⟨some 4, none, .op .id [.tmp 69]⟩]
abbrev debuggerlaw36_MessageCommands.body : Cd := (.seq (.rgn debuggerlaw36_MessageCommands.r0) (.seq (.seq (.rgn debuggerlaw36_MessageCommands.r1) (.cond (.tmp 17) (.seq (.rgn debuggerlaw36_MessageCommands.r2) .ret) .skip)) (.seq (.rgn debuggerlaw36_MessageCommands.r3) (.seq (.rgn debuggerlaw36_MessageCommands.r4) (.seq (.seq (.rgn debuggerlaw36_MessageCommands.r5) (.block 0 (.loop debuggerlaw36_MessageCommands.l0))) (.seq (.rgn debuggerlaw36_MessageCommands.r17) .ret))))))
def debuggerlaw36_MessageCommands.af : AF := ⟨2, 70, [.tmp 4], debuggerlaw36_MessageCommands.body⟩
theorem debuggerlaw36_MessageCommands.ok : cFunc PP [] Try.f8 = some debuggerlaw36_MessageCommands.af := by kernel_rfl
theorem debuggerlaw36_MessageCommands.intro {args : List V} {H : Heap} {Q : V → Heap → Prop} (hlen : args.length ≤ 70) (h : wpC (SCall PP) H.length debuggerlaw36_MessageCommands.body (exitK H.length [.tmp 4] Q) ⟨initVs 0 args, H⟩) : SCall PP N.debuggerlaw36_MessageCommands args H Q :=
  SCall.intro Try.func8 (by kernel_rfl) debuggerlaw36_MessageCommands.ok hlen h
/-! ### debugger/debuggerlaw36.MessageFits -/
abbrev debuggerlaw36_MessageFits.r0 : List Ins := [⟨some 3, none, .op .box [.tmp 0]⟩,
  ⟨some 4, none, .op .box [.tmp 1]⟩,
  ⟨some 6, none, .op .id [.val (.t (.bool false))]⟩]
abbrev debuggerlaw36_MessageFits.r1 : List Ins := [⟨some 13, none, .op (.fieldA 4) [.tmp 3]⟩,
  ⟨some 14, none, .op .load1 [.tmp 13]⟩,
  ⟨some 15, none, .op .len [.tmp 14]⟩,
  ⟨some 16, none, .op (.bin .gtr) [.tmp 15, .val (.t (.int .i64 128))]⟩,
  ⟨some 17, none, .op .id [.tmp 16]⟩,
  ⟨some 18, some (17, false), .op (.loadN 11) [.tmp 4]⟩,
  ⟨some 19, some (17, false), .call N.debuggerlaw36_small [.tmp 18]⟩,
  ⟨some 20, some (17, false), .op (.un .not) [.tmp 19]⟩,
  ⟨some 21, none, .op .pick [.tmp 17, .val (.t (.bool true)), .tmp 20]⟩]
abbrev debuggerlaw36_MessageFits.r2 : List Ins := [⟨some 22, none, .call N.debuggerlaw36_awake []⟩,
  ⟨some 6, none, .op .id [.tmp 22]⟩]
abbrev debuggerlaw36_MessageFits.r3 : List Ins := [⟨some 23, none, .op (.makeSlice 1 8 (.int .i64 0)) [.val (.t (.int .i64 128)), .val (.t (.int .i64 128))]⟩,
  ⟨some 24, none, .op (.fieldA 4) [.tmp 3]⟩,
  ⟨none, none, .op (.store 1) [.tmp 24, .tmp 23]⟩]
abbrev debuggerlaw36_MessageFits.r4 : List Ins := [⟨some 7, none, .op .id [.val (.t (.int .i64 0))]⟩]
abbrev debuggerlaw36_MessageFits.r5 : List Ins := [⟨some 25, none, .op .id [.tmp 7]⟩,
  ⟨some 26, none, .op (.fieldA 4) [.tmp 3]⟩,
  ⟨some 27, none, .op .load1 [.tmp 26]⟩,
  ⟨some 28, none, .op .len [.tmp 27]⟩,
  ⟨some 29, none, .op (.bin .lss) [.tmp 25, .tmp 28]⟩]
abbrev debuggerlaw36_MessageFits.r6 : List Ins := [⟨some 32, none, .op (.fieldA 4) [.tmp 3]⟩,
  ⟨some 33, none, .op .load1 [.tmp 32]⟩,
  ⟨some 34, none, .op .id [.tmp 7]⟩,
  ⟨some 35, none, .op .id [.tmp 2]⟩,
  ⟨some 36, none, .op (.idxS 1) [.tmp 33, .tmp 34]⟩,
  ⟨none, none, .op (.store 1) [.tmp 36, .tmp 35]⟩]
abbrev debuggerlaw36_MessageFits.r7 : List Ins := [⟨some 30, none, .op .id [.tmp 7]⟩,
  ⟨some 31, none, .op (.bin .add) [.tmp 30, .val (.t (.int .i64 1))]⟩,
  ⟨some 7, none, .op .id [.tmp 31]⟩]
abbrev debuggerlaw36_MessageFits.l0 : Cd := (.seq (.seq (.rgn debuggerlaw36_MessageFits.r5) (.cond (.tmp 29) .skip (.exit 0))) (.seq (.block 1 (.rgn debuggerlaw36_MessageFits.r6)) (.rgn debuggerlaw36_MessageFits.r7)))
abbrev debuggerlaw36_MessageFits.r8 : List Ins := [⟨some 37, none, .op (.loadN 11) [.tmp 4]⟩,
  ⟨some 38, none, .call N.debuggerlaw36_near [.tmp 37, .val (.t (.int .i64 7))]⟩,
  ⟨none, none, .op (.store 11) [.tmp 4, .tmp 38]⟩]
abbrev debuggerlaw36_MessageFits.r9 : List Ins := [⟨some 39, none, .op (.fieldA 1) [.tmp 4]⟩,
  ⟨some 40, none, .op .load1 [.tmp 39]⟩,
  ⟨some 41, none, .op (.fieldA 1) [.tmp 4]⟩,
  ⟨some 42, none, .op .load1 [.tmp 41]⟩,
  ⟨some 43, none, .op .len [.tmp 42]⟩,
  ⟨some 44, none, .op .min2 [.tmp 43, .val (.t (.int .i64 128))]⟩,
  ⟨some 45, none, .op (.slice 1 false true) [.tmp 40, .tmp 44]⟩,
  ⟨some 46, none, .op (.fieldA 1) [.tmp 4]⟩,
  ⟨none, none, .op (.store 1) [.tmp 46, .tmp 45]⟩]
abbrev debuggerlaw36_MessageFits.r10 : List Ins := [⟨some 47, none, .op (.makeSlice 2 16 (.agg [(.int .i64 0), (.int .i64 0)])) [.val (.t (.int .i64 128)), .val (.t (.int .i64 128))]⟩,
  ⟨some 48, none, .op (.fieldA 3) [.tmp 4]⟩,
  ⟨none, none, .op (.store 1) [.tmp 48, .tmp 47]⟩]
abbrev debuggerlaw36_MessageFits.r11 : List Ins := [⟨some 8, none, .op .id [.val (.t (.int .i64 0))]⟩]
abbrev debuggerlaw36_MessageFits.r12 : List Ins := [⟨some 49, none, .op .id [.tmp 8]⟩,
  ⟨some 50, none, .op (.fieldA 3) [.tmp 4]⟩,
  ⟨some 51, none, .op .load1 [.tmp 50]⟩,
  ⟨some 52, none, .op .len [.tmp 51]⟩,
  ⟨some 53, none, .op (.bin .lss) [.tmp 49, .tmp 52]⟩]
abbrev debuggerlaw36_MessageFits.r13 : List Ins := [⟨some 56, none, .op (.fieldA 3) [.tmp 4]⟩,
  ⟨some 57, none, .op .load1 [.tmp 56]⟩,
  ⟨some 58, none, .op .id [.tmp 8]⟩,
  ⟨some 59, none, .op .id [.tmp 2]⟩,
  ⟨some 60, none, .op .id [.tmp 2]⟩,
  ⟨some 61, none, .op (.build [(.int .i64 0), (.int .i64 0)] [(0, 1), (1, 1)]) [.tmp 59, .tmp 60]⟩,
  ⟨some 62, none, .op (.idxS 2) [.tmp 57, .tmp 58]⟩,
  ⟨none, none, .op (.store 2) [.tmp 62, .tmp 61]⟩]
abbrev debuggerlaw36_MessageFits.r14 : List Ins := [⟨some 54, none, .op .id [.tmp 8]⟩,
  ⟨some 55, none, .op (.bin .add) [.tmp 54, .val (.t (.int .i64 1))]⟩,
  ⟨some 8, none, .op .id [.tmp 55]⟩]
abbrev debuggerlaw36_MessageFits.l1 : Cd := (.seq (.seq (.rgn debuggerlaw36_MessageFits.r12) (.cond (.tmp 53) .skip (.exit 2))) (.seq (.block 3 (.rgn debuggerlaw36_MessageFits.r13)) (.rgn debuggerlaw36_MessageFits.r14)))
abbrev debuggerlaw36_MessageFits.r15 : List Ins := [⟨some 64, none, .op (.loadN 5) [.tmp 3]⟩,
  ⟨some 65, none, .call N.message_EncodeCommand [.tmp 64]⟩,
  ⟨some 63, none, .op .id [.tmp 65]⟩,
  ⟨some 66, none, .op (.extract 0) [.tmp 63]⟩,
  ⟨some 67, none, .op (.extract 1) [.tmp 63]⟩,
  ⟨some 9, none, .op .id [.tmp 66]⟩,
  ⟨some 10, none, .op .id [.tmp 67]⟩]
abbrev debuggerlaw36_MessageFits.r16 : List Ins := [⟨some 69, none, .op (.loadN 11) [.tmp 4]⟩,
  ⟨some 70, none, .call N.message_EncodeReply [.tmp 69]⟩,
  ⟨some 68, none, .op .id [.tmp 70]⟩,
  ⟨some 71, none, .op (.extract 0) [.tmp 68]⟩,
  ⟨some 72, none, .op (.extract 1) [.tmp 68]⟩,
  ⟨some 11, none, .op .id [.tmp 71]⟩,
  ⟨some 12, none, .op .id [.tmp 72]⟩]
abbrev debuggerlaw36_MessageFits.r17 : List Ins := [⟨some 73, none, .op .id [.tmp 10]⟩,
  ⟨some 74, none, .op (.bin .eql) [.tmp 73, .val (.t (.int .i64 0))]⟩,
  ⟨some 75, none, .op .id [.tmp 74]⟩,
  ⟨some 76, some (75, true), .op .id [.tmp 12]⟩,
  ⟨some 77, some (75, true), .op (.bin .eql) [.tmp 76, .val (.t (.int .i64 0))]⟩,
  ⟨some 78, none, .op .pick [.tmp 75, .tmp 77, .val (.t (.bool false))]⟩,
  ⟨some 79, none, .op .id [.tmp 78]⟩,
  ⟨some 80, some (79, true), .op .id [.tmp 9]⟩,
  ⟨some 81, some (79, true), .op .len [.tmp 80]⟩,
  ⟨some 82, some (79, true), .op (.bin .gtr) [.tmp 81, .val (.t (.int .i64 0))]⟩,
  ⟨some 83, none, .op .pick [.tmp 79, .tmp 82, .val (.t (.bool false))]⟩,
  ⟨some 84, none, .op .id [.tmp 83]⟩,
  ⟨some 85, some (84, true), .op .id [.tmp 9]⟩,
  ⟨some 86, some (84, true), .op .len [.tmp 85]⟩,
  ⟨some 87, some (84, true), .op (.bin .leq) [.tmp 86, .val (.t (.int .i64 6000))]⟩,
  ⟨some 88, none, .op .pick [.tmp 84, .tmp 87, .val (.t (.bool false))]⟩,
  ⟨some 89, none, .op .id [.tmp 88]⟩,
  ⟨some 90, some (89, true), .op .id [.tmp 11]⟩,
  ⟨some 91, some (89, true), .op .len [.tmp 90]⟩,
  ⟨some 92, some (89, true), .op (.bin .gtr) [.tmp 91, .val (.t (.int .i64 0))]⟩,
  ⟨some 93, none, .op .pick [.tmp 89, .tmp 92, .val (.t (.bool false))]⟩,
  ⟨some 94, none, .op .id [.tmp 93]⟩,
  ⟨some 95, some (94, true), .op .id [.tmp 11]⟩,
  ⟨some 96, some (94, true), .op .len [.tmp 95]⟩,
  ⟨some 97, some (94, true), .op (.bin .leq) [.tmp 96, .val (.t (.int .i64 6000))]⟩,
  ⟨some 98, none, .op .pick [.tmp 94, .tmp 97, .val (.t (.bool false))]⟩,
  ⟨some 99, none, .op .id [.tmp 98]⟩,
  ⟨some 100, some (99, true), .call N.debuggerlaw36_awake []⟩,
  ⟨some 101, none, .op .pick [.tmp 99, .tmp 100, .val (.t (.bool false))]⟩,
  ⟨some 6, none, .op .id [.tmp 101]⟩]
abbrev debuggerlaw36_MessageFits.body : Cd := (.seq (.rgn debuggerlaw36_MessageFits.r0) (.seq (.seq (.rgn debuggerlaw36_MessageFits.r1) (.cond (.tmp 21) (.seq (.rgn debuggerlaw36_MessageFits.r2) .ret) .skip)) (.seq (.rgn debuggerlaw36_MessageFits.r3) (.seq (.seq (.rgn debuggerlaw36_MessageFits.r4) (.block 0 (.loop debuggerlaw36_MessageFits.l0))) (.seq (.rgn debuggerlaw36_MessageFits.r8) (.seq (.rgn debuggerlaw36_MessageFits.r9) (.seq (.rgn debuggerlaw36_MessageFits.r10) (.seq (.seq (.rgn debuggerlaw36_MessageFits.r11) (.block 2 (.loop debuggerlaw36_MessageFits.l1))) (.seq (.rgn debuggerlaw36_MessageFits.r15) (.seq (.rgn debuggerlaw36_MessageFits.r16) (.seq (.rgn debuggerlaw36_MessageFits.r17) .ret)))))))))))
def debuggerlaw36_MessageFits.af : AF := ⟨3, 102, [.tmp 6], debuggerlaw36_MessageFits.body⟩
theorem debuggerlaw36_MessageFits.ok : cFunc PP [] Try.f13 = some debuggerlaw36_MessageFits.af := by kernel_rfl
theorem debuggerlaw36_MessageFits.intro {args : List V} {H : Heap} {Q : V → Heap → Prop} (hlen : args.length ≤ 102) (h : wpC (SCall PP) H.length debuggerlaw36_MessageFits.body (exitK H.length [.tmp 6] Q) ⟨initVs 0 args, H⟩) : SCall PP N.debuggerlaw36_MessageFits args H Q :=
  SCall.intro Try.func13 (by kernel_rfl) debuggerlaw36_MessageFits.ok hlen h
/-! ### debugger/debuggerlaw36.MessageDecodes -/
abbrev debuggerlaw36_MessageDecodes.r0 : List Ins := [⟨some 7, none, .op .box [.tmp 1]⟩,
  ⟨some 8, none, .op .box [.tmp 2]⟩,
  ⟨some 12, none, .op .id [.val (.t (.bool false))]⟩]
abbrev debuggerlaw36_MessageDecodes.r1 : List Ins := [⟨some 31, none, .op .id [.tmp 0]⟩,
  ⟨some 32, none, .op .len [.tmp 31]⟩,
  ⟨some 33, none, .op (.bin .gtr) [.tmp 32, .val (.t (.int .i64 1000))]⟩,
  ⟨some 34, none, .op .id [.tmp 33]⟩,
  ⟨some 35, some (34, false), .op (.fieldA 4) [.tmp 7]⟩,
  ⟨some 36, some (34, false), .op .load1 [.tmp 35]⟩,
  ⟨some 37, some (34, false), .op .len [.tmp 36]⟩,
  ⟨some 38, some (34, false), .op (.bin .gtr) [.tmp 37, .val (.t (.int .i64 20))]⟩,
  ⟨some 39, none, .op .pick [.tmp 34, .val (.t (.bool true)), .tmp 38]⟩,
  ⟨some 40, none, .op .id [.tmp 39]⟩,
  ⟨some 41, some (40, false), .op (.loadN 11) [.tmp 8]⟩,
  ⟨some 42, some (40, false), .call N.debuggerlaw36_small [.tmp 41]⟩,
  ⟨some 43, some (40, false), .op (.un .not) [.tmp 42]⟩,
  ⟨some 44, none, .op .pick [.tmp 40, .val (.t (.bool true)), .tmp 43]⟩,
  ⟨some 45, none, .op .id [.tmp 44]⟩,
  ⟨some 46, some (45, false), .op (.fieldA 1) [.tmp 8]⟩,
  ⟨some 47, some (45, false), .op .load1 [.tmp 46]⟩,
  ⟨some 48, some (45, false), .op .len [.tmp 47]⟩,
  ⟨some 49, some (45, false), .op (.bin .gtr) [.tmp 48, .val (.t (.int .i64 20))]⟩,
  ⟨some 50, none, .op .pick [.tmp 45, .val (.t (.bool true)), .tmp 49]⟩,
  ⟨some 51, none, .op .id [.tmp 50]⟩,
  ⟨some 52, some (51, false), .op (.fieldA 3) [.tmp 8]⟩,
  ⟨some 53, some (51, false), .op .load1 [.tmp 52]⟩,
  ⟨some 54, some (51, false), .op .len [.tmp 53]⟩,
  ⟨some 55, some (51, false), .op (.bin .gtr) [.tmp 54, .val (.t (.int .i64 20))]⟩,
  ⟨some 56, none, .op .pick [.tmp 51, .val (.t (.bool true)), .tmp 55]⟩]
abbrev debuggerlaw36_MessageDecodes.r2 : List Ins := [⟨some 57, none, .call N.debuggerlaw36_awake []⟩,
  ⟨some 12, none, .op .id [.tmp 57]⟩]
abbrev debuggerlaw36_MessageDecodes.r3 : List Ins := [⟨some 59, none, .op (.loadN 5) [.tmp 7]⟩,
  ⟨some 60, none, .call N.debuggerref36_EncodeCommand [.tmp 59]⟩,
  ⟨some 58, none, .op .id [.tmp 60]⟩,
  ⟨some 61, none, .op (.extract 0) [.tmp 58]⟩,
  ⟨some 62, none, .op (.extract 1) [.tmp 58]⟩,
  ⟨some 13, none, .op .id [.tmp 61]⟩,
  ⟨some 14, none, .op .id [.tmp 62]⟩]
abbrev debuggerlaw36_MessageDecodes.r4 : List Ins := [⟨some 64, none, .op (.loadN 11) [.tmp 8]⟩,
  ⟨some 65, none, .call N.debuggerlaw36_near [.tmp 64, .val (.t (.int .i64 7))]⟩,
  ⟨some 66, none, .call N.debuggerref36_EncodeReply [.tmp 65]⟩,
  ⟨some 63, none, .op .id [.tmp 66]⟩,
  ⟨some 67, none, .op (.extract 0) [.tmp 63]⟩,
  ⟨some 68, none, .op (.extract 1) [.tmp 63]⟩,
  ⟨some 15, none, .op .id [.tmp 67]⟩,
  ⟨some 16, none, .op .id [.tmp 68]⟩]
abbrev debuggerlaw36_MessageDecodes.r5 : List Ins := [⟨some 69, none, .op .id [.tmp 13]⟩,
  ⟨some 70, none, .op .id [.tmp 15]⟩,
  ⟨some 71, none, .op (.buildSlice 1 (.lst 0 true []) 2 [0, 1]) [.tmp 69, .tmp 70]⟩,
  ⟨some 72, none, .op .len [.tmp 71]⟩,
  ⟨some 73, none, .op .id [.val (.t (.int .i64 0))]⟩]
abbrev debuggerlaw36_MessageDecodes.r6 : List Ins := [⟨some 74, none, .op (.bin .lss) [.tmp 73, .tmp 72]⟩]
abbrev debuggerlaw36_MessageDecodes.r7 : List Ins := [⟨some 75, none, .op (.idxS 1) [.tmp 71, .tmp 73]⟩,
  ⟨some 76, none, .op .load1 [.tmp 75]⟩,
  ⟨some 18, none, .op .id [.tmp 76]⟩]
abbrev debuggerlaw36_MessageDecodes.r8 : List Ins := [⟨some 77, none, .op (.buildSlice 1 (.int .u8 0) 0 []) []⟩,
  ⟨some 78, none, .op .id [.tmp 18]⟩,
  ⟨some 79, none, .op (.append 1 1) [.tmp 77, .tmp 78]⟩,
  ⟨some 19, none, .op .id [.tmp 79]⟩]
abbrev debuggerlaw36_MessageDecodes.r9 : List Ins := [⟨some 20, none, .op .id [.val (.t (.int .i64 0))]⟩]
abbrev debuggerlaw36_MessageDecodes.r10 : List Ins := [⟨some 80, none, .op .id [.tmp 20]⟩,
  ⟨some 81, none, .op .id [.tmp 3]⟩,
  ⟨some 82, none, .op .len [.tmp 81]⟩,
  ⟨some 83, none, .op (.bin .lss) [.tmp 80, .tmp 82]⟩,
  ⟨some 84, none, .op .id [.tmp 83]⟩,
  ⟨some 85, some (84, true), .op .id [.tmp 20]⟩,
  ⟨some 86, some (84, true), .op (.bin .lss) [.tmp 85, .val (.t (.int .i64 3))]⟩,
  ⟨some 87, none, .op .pick [.tmp 84, .tmp 86, .val (.t (.bool false))]⟩,
  ⟨some 88, none, .op .id [.tmp 87]⟩,
  ⟨some 89, some (88, true), .op .id [.tmp 19]⟩,
  ⟨some 90, some (88, true), .op .len [.tmp 89]⟩,
  ⟨some 91, some (88, true), .op (.bin .gtr) [.tmp 90, .val (.t (.int .i64 0))]⟩,
  ⟨some 92, none, .op .pick [.tmp 88, .tmp 91, .val (.t (.bool false))]⟩]
abbrev debuggerlaw36_MessageDecodes.r11 : List Ins := [⟨some 95, none, .op .id [.tmp 19]⟩,
  ⟨some 96, none, .op .id [.tmp 3]⟩,
  ⟨some 97, none, .op .id [.tmp 20]⟩,
  ⟨some 98, none, .op (.idxS 1) [.tmp 96, .tmp 97]⟩,
  ⟨some 99, none, .op .load1 [.tmp 98]⟩,
  ⟨some 100, none, .op .id [.tmp 19]⟩,
  ⟨some 101, none, .op .len [.tmp 100]⟩,
  ⟨some 102, none, .call N.debuggerkit_Mod [.tmp 99, .tmp 101]⟩,
  ⟨some 103, none, .op (.idxS 1) [.tmp 95, .tmp 102]⟩,
  ⟨some 104, none, .op .load1 [.tmp 103]⟩,
  ⟨some 105, none, .op .id [.tmp 4]⟩,
  ⟨some 106, none, .op (.bin .xor) [.tmp 104, .tmp 105]⟩,
  ⟨some 107, none, .op (.idxS 1) [.tmp 95, .tmp 102]⟩,
  ⟨none, none, .op (.store 1) [.tmp 107, .tmp 106]⟩]
abbrev debuggerlaw36_MessageDecodes.r12 : List Ins := [⟨some 93, none, .op .id [.tmp 20]⟩,
  ⟨some 94, none, .op (.bin .add) [.tmp 93, .val (.t (.int .i64 1))]⟩,
  ⟨some 20, none, .op .id [.tmp 94]⟩]
abbrev debuggerlaw36_MessageDecodes.l0 : Cd := (.seq (.seq (.rgn debuggerlaw36_MessageDecodes.r10) (.cond (.tmp 92) .skip (.exit 2))) (.seq (.block 3 (.rgn debuggerlaw36_MessageDecodes.r11)) (.rgn debuggerlaw36_MessageDecodes.r12)))
abbrev debuggerlaw36_MessageDecodes.d0 : Plan := (.val ⟨some 108, none, .op .id [.tmp 0]⟩
  (.val ⟨some 109, none, .op .id [.tmp 19]⟩
  (.val ⟨some 110, none, .op .id [.tmp 19]⟩
  (.val ⟨some 111, none, .op .id [.tmp 5]⟩
  (.val ⟨some 112, none, .op .id [.tmp 19]⟩
  (.val ⟨some 113, none, .op .len [.tmp 112]⟩
  (.val ⟨some 114, none, .op (.bin .add) [.tmp 113, .val (.t (.int .i64 1))]⟩
  (.val ⟨some 118, none, .op .id [.tmp 19]⟩
  (.val ⟨some 120, none, .op .id [.tmp 0]⟩
  (.val ⟨some 124, none, .op .id [.val (.t (.int .i64 0))]⟩
  (.alt (.eff ⟨some 115, none, .call N.debuggerkit_Mod [.tmp 111, .tmp 114]⟩ []
  (.val ⟨some 116, none, .op (.slice 1 false true) [.tmp 110, .tmp 115]⟩
  (.eff ⟨some 117, none, .op (.buildSlice 1 (.int .u8 0) 0 []) []⟩ []
  (.eff ⟨some 119, none, .op (.append 1 1) [.tmp 117, .tmp 118]⟩ []
  (.eff ⟨some 121, none, .op (.append 1 1) [.tmp 119, .tmp 120]⟩ []
  (.eff ⟨some 122, none, .op (.buildSlice 1 (.lst 0 true []) 4 [0, 1, 2, 3]) [.tmp 108, .tmp 109, .tmp 116, .tmp 121]⟩ []
  (.val ⟨some 123, none, .op .len [.tmp 122]⟩
  .fin)))))))
  (.eff ⟨some 117, none, .op (.buildSlice 1 (.int .u8 0) 0 []) []⟩ []
  (.eff ⟨some 115, none, .call N.debuggerkit_Mod [.tmp 111, .tmp 114]⟩ []
  (.val ⟨some 116, none, .op (.slice 1 false true) [.tmp 110, .tmp 115]⟩
  (.eff ⟨some 119, none, .op (.append 1 1) [.tmp 117, .tmp 118]⟩ []
  (.eff ⟨some 121, none, .op (.append 1 1) [.tmp 119, .tmp 120]⟩ []
  (.eff ⟨some 122, none, .op (.buildSlice 1 (.lst 0 true []) 4 [0, 1, 2, 3]) [.tmp 108, .tmp 109, .tmp 116, .tmp 121]⟩ []
  (.val ⟨some 123, none, .op .len [.tmp 122]⟩
  .fin))))))))))))))))))
abbrev debuggerlaw36_MessageDecodes.r13 : List Ins := [⟨some 125, none, .op (.bin .lss) [.tmp 124, .tmp 123]⟩]
abbrev debuggerlaw36_MessageDecodes.r14 : List Ins := [⟨some 126, none, .op (.idxS 1) [.tmp 122, .tmp 124]⟩,
  ⟨some 127, none, .op .load1 [.tmp 126]⟩,
  ⟨some 22, none, .op .id [.tmp 127]⟩]
abbrev debuggerlaw36_MessageDecodes.r15 : List Ins := [⟨some 129, none, .op .id [.tmp 22]⟩,
  ⟨some 130, none, .call N.message_DecodeCommand [.tmp 129]⟩,
  ⟨some 128, none, .op .id [.tmp 130]⟩,
  ⟨some 131, none, .op (.extract 0) [.tmp 128]⟩,
  ⟨some 132, none, .op (.extract 1) [.tmp 128]⟩,
  ⟨some 23, none, .op (.alloc [(.int .i64 0), (.int .i64 0), (.int .i64 0), (.int .i64 0), (.lst 0 true [])]) []⟩,
  ⟨none, none, .op (.store 5) [.tmp 23, .tmp 131]⟩,
  ⟨some 24, none, .op .id [.tmp 132]⟩]
abbrev debuggerlaw36_MessageDecodes.r16 : List Ins := [⟨some 134, none, .op .id [.tmp 22]⟩,
  ⟨some 135, none, .call N.debuggerref36_DecodeCommand [.tmp 134]⟩,
  ⟨some 133, none, .op .id [.tmp 135]⟩,
  ⟨some 136, none, .op (.extract 0) [.tmp 133]⟩,
  ⟨some 137, none, .op (.extract 1) [.tmp 133]⟩,
  ⟨some 25, none, .op (.alloc [(.int .i64 0), (.int .i64 0), (.int .i64 0), (.int .i64 0), (.lst 0 true [])]) []⟩,
  ⟨none, none, .op (.store 5) [.tmp 25, .tmp 136]⟩,
  ⟨some 26, none, .op .id [.tmp 137]⟩]
abbrev debuggerlaw36_MessageDecodes.r17 : List Ins := [⟨some 139, none, .op .id [.tmp 22]⟩,
  ⟨some 140, none, .call N.message_DecodeReply [.tmp 139]⟩,
  ⟨some 138, none, .op .id [.tmp 140]⟩,
  ⟨some 141, none, .op (.extract 0) [.tmp 138]⟩,
  ⟨some 142, none, .op (.extract 1) [.tmp 138]⟩,
  ⟨some 27, none, .op (.alloc [(.int .i64 0), (.lst 0 true []), (.lst 0 true []), (.lst 0 true []), (.int .i64 0), (.int .i64 0), (.int .i64 0), (.int .i64 0), (.int .i64 0), (.int .i64 0), (.int .i64 0)]) []⟩,
  ⟨none, none, .op (.store 11) [.tmp 27, .tmp 141]⟩,
  ⟨some 28, none, .op .id [.tmp 142]⟩]
abbrev debuggerlaw36_MessageDecodes.r18 : List Ins := [⟨some 144, none, .op .id [.tmp 22]⟩,
  ⟨some 145, none, .call N.debuggerref36_DecodeReply [.tmp 144]⟩,
  ⟨some 143, none, .op .id [.tmp 145]⟩,
  ⟨some 146, none, .op (.extract 0) [.tmp 143]⟩,
  ⟨some 147, none, .op (.extract 1) [.tmp 143]⟩,
  ⟨some 29, none, .op (.alloc [(.int .i64 0), (.lst 0 true []), (.lst 0 true []), (.lst 0 true []), (.int .i64 0), (.int .i64 0), (.int .i64 0), (.int .i64 0), (.int .i64 0), (.int .i64 0), (.int .i64 0)]) []⟩,
  ⟨none, none, .op (.store 11) [.tmp 29, .tmp 146]⟩,
  ⟨some 30, none, .op .id [.tmp 147]⟩]
abbrev debuggerlaw36_MessageDecodes.r19 : List Ins := [⟨some 148, none, .op .id [.tmp 24]⟩,
  ⟨some 149, none, .op .id [.tmp 26]⟩,
  ⟨some 150, none, .op (.bin .neq) [.tmp 148, .tmp 149]⟩,
  ⟨some 151, none, .op .id [.tmp 150]⟩,
  ⟨some 152, some (151, false), .op .id [.tmp 28]⟩,
  ⟨some 153, some (151, false), .op .id [.tmp 30]⟩,
  ⟨some 154, some (151, false), .op (.bin .neq) [.tmp 152, .tmp 153]⟩,
  ⟨some 155, none, .op .pick [.tmp 151, .val (.t (.bool true)), .tmp 154]⟩,
  ⟨some 156, none, .op .id [.tmp 155]⟩,
  ⟨some 157, some (156, false), .op (.loadN 5) [.tmp 23]⟩,
  ⟨some 158, some (156, false), .op (.loadN 5) [.tmp 25]⟩,
  ⟨some 159, some (156, false), .call N.debuggerequal_SameCommand [.tmp 157, .tmp 158]⟩,
  ⟨some 160, some (156, false), .op (.un .not) [.tmp 159]⟩,
  ⟨some 161, none, .op .pick [.tmp 156, .val (.t (.bool true)), .tmp 160]⟩,
  ⟨some 162, none, .op .id [.tmp 161]⟩,
  ⟨some 163, some (162, false), .op (.loadN 11) [.tmp 27]⟩,
  ⟨some 164, some (162, false), .op (.loadN 11) [.tmp 29]⟩,
  ⟨some 165, some (162, false), .call N.debuggerequal_SameReply [.tmp 163, .tmp 164]⟩,
  ⟨some 166, some (162, false), .op (.un .not) [.tmp 165]⟩,
  ⟨some 167, none, .op .pick [.tmp 162, .val (.t (.bool true)), .tmp 166]⟩]
abbrev debuggerlaw36_MessageDecodes.r20 : List Ins := [⟨some 12, none, .op .id [.val (.t (.bool false))]⟩]
abbrev debuggerlaw36_MessageDecodes.r21 : List Ins := [⟨some 168, none, .op (.bin .add) [.tmp 124, .val (.t (.int .i64 1))]⟩,
  ⟨some 124, none, .op .id [.tmp 168]⟩]
abbrev debuggerlaw36_MessageDecodes.l1 : Cd := (.seq (.rgn debuggerlaw36_MessageDecodes.r13) (.seq (.cond (.tmp 125) .skip (.exit 4)) (.seq (.block 5 (.seq (.rgn debuggerlaw36_MessageDecodes.r14) (.seq (.rgn debuggerlaw36_MessageDecodes.r15) (.seq (.rgn debuggerlaw36_MessageDecodes.r16) (.seq (.rgn debuggerlaw36_MessageDecodes.r17) (.seq (.rgn debuggerlaw36_MessageDecodes.r18) (.seq (.rgn debuggerlaw36_MessageDecodes.r19) (.cond (.tmp 167) (.seq (.rgn debuggerlaw36_MessageDecodes.r20) .ret) .skip)))))))) (.rgn debuggerlaw36_MessageDecodes.r21))))
abbrev debuggerlaw36_MessageDecodes.r22 : List Ins := [⟨some 169, none, .op (.bin .add) [.tmp 73, .val (.t (.int .i64 1))]⟩,
  ⟨some 73, none, .op .id [.tmp 169]⟩]
abbrev debuggerlaw36_MessageDecodes.l2 : Cd := (.seq (.rgn debuggerlaw36_MessageDecodes.r6) (.seq (.cond (.tmp 74) .skip (.exit 0)) (.seq (.block 1 (.seq (.rgn debuggerlaw36_MessageDecodes.r7) (.seq (.rgn debuggerlaw36_MessageDecodes.r8) (.seq (.seq (.rgn debuggerlaw36_MessageDecodes.r9) (.block 2 (.loop debuggerlaw36_MessageDecodes.l0))) (.seq (.rgnD debuggerlaw36_MessageDecodes.d0) (.block 4 (.loop debuggerlaw36_MessageDecodes.l1))))))) (.rgn debuggerlaw36_MessageDecodes.r22))))
abbrev debuggerlaw36_MessageDecodes.r23 : List Ins := [⟨some 170, none, .call N.debuggerlaw36_awake []⟩,
  ⟨some 12, none, .op .id [.tmp 170]⟩]
abbrev debuggerlaw36_MessageDecodes.body : Cd := (.seq (.rgn debuggerlaw36_MessageDecodes.r0) (.seq (.seq (.rgn debuggerlaw36_MessageDecodes.r1) (.cond (.tmp 56) (.seq (.rgn debuggerlaw36_MessageDecodes.r2) .ret) .skip)) (.seq (.rgn debuggerlaw36_MessageDecodes.r3) (.seq (.rgn debuggerlaw36_MessageDecodes.r4) (.seq (.seq (.rgn debuggerlaw36_MessageDecodes.r5) (.block 0 (.loop debuggerlaw36_MessageDecodes.l2))) (.seq (.rgn debuggerlaw36_MessageDecodes.r23) .ret))))))
def debuggerlaw36_MessageDecodes.af : AF := ⟨6, 171, [.tmp 12], debuggerlaw36_MessageDecodes.body⟩
theorem debuggerlaw36_MessageDecodes.ok : cFunc PP [] Try.f14 = some debuggerlaw36_MessageDecodes.af := by kernel_rfl
theorem debuggerlaw36_MessageDecodes.intro {args : List V} {H : Heap} {Q : V → Heap → Prop} (hlen : args.length ≤ 171) (h : wpC (SCall PP) H.length debuggerlaw36_MessageDecodes.body (exitK H.length [.tmp 12] Q) ⟨initVs 0 args, H⟩) : SCall PP N.debuggerlaw36_MessageDecodes args H Q :=
  SCall.intro Try.func14 (by kernel_rfl) debuggerlaw36_MessageDecodes.ok hlen h
/-! ### debugger/debuggerlaw36.MessageReplies -/
abbrev debuggerlaw36_MessageReplies.r0 : List Ins := [⟨some 2, none, .op .box [.tmp 0]⟩,
  ⟨some 4, none, .op .id [.val (.t (.bool false))]⟩]
abbrev debuggerlaw36_MessageReplies.r1 : List Ins := [⟨some 13, none, .op (.loadN 11) [.tmp 2]⟩,
  ⟨some 14, none, .call N.debuggerlaw36_small [.tmp 13]⟩,
  ⟨some 15, none, .op (.un .not) [.tmp 14]⟩]
abbrev debuggerlaw36_MessageReplies.r2 : List Ins := [⟨some 16, none, .call N.debuggerlaw36_awake []⟩,
  ⟨some 4, none, .op .id [.tmp 16]⟩]
abbrev debuggerlaw36_MessageReplies.d0 : Plan := (.val ⟨some 17, none, .op (.loadN 11) [.tmp 2]⟩
  (.val ⟨some 18, none, .op (.loadN 11) [.tmp 2]⟩
  (.val ⟨some 19, none, .op .id [.tmp 1]⟩
  (.val ⟨some 23, none, .op .id [.val (.t (.int .i64 0))]⟩
  (.eff ⟨some 20, none, .call N.debuggerlaw36_near [.tmp 18, .tmp 19]⟩ [⟨some 17, none, .op (.loadN 11) [.tmp 2]⟩]
  (.eff ⟨some 21, none, .op (.buildSlice 11 (.agg [(.int .i64 0), (.lst 0 true []), (.lst 0 true []), (.lst 0 true []), (.int .i64 0), (.int .i64 0), (.int .i64 0), (.int .i64 0), (.int .i64 0), (.int .i64 0), (.int .i64 0)]) 2 [0, 1]) [.tmp 17, .tmp 20]⟩ []
  (.val ⟨some 22, none, .op .len [.tmp 21]⟩
  .fin)))))))
abbrev debuggerlaw36_MessageReplies.r3 : List Ins := [⟨some 24, none, .op (.bin .lss) [.tmp 23, .tmp 22]⟩]
abbrev debuggerlaw36_MessageReplies.r4 : List Ins := [⟨some 25, none, .op (.idxS 11) [.tmp 21, .tmp 23]⟩,
  ⟨some 26, none, .op (.loadN 11) [.tmp 25]⟩,
  ⟨some 6, none, .op (.alloc [(.int .i64 0), (.lst 0 true []), (.lst 0 true []), (.lst 0 true []), (.int .i64 0), (.int .i64 0), (.int .i64 0), (.int .i64 0), (.int .i64 0), (.int .i64 0), (.int .i64 0)]) []⟩,
  ⟨none, none, .op (.store 11) [.tmp 6, .tmp 26]⟩]
abbrev debuggerlaw36_MessageReplies.r5 : List Ins := [⟨some 28, none, .op (.loadN 11) [.tmp 6]⟩,
  ⟨some 29, none, .call N.message_EncodeReply [.tmp 28]⟩,
  ⟨some 27, none, .op .id [.tmp 29]⟩,
  ⟨some 30, none, .op (.extract 0) [.tmp 27]⟩,
  ⟨some 31, none, .op (.extract 1) [.tmp 27]⟩,
  ⟨some 7, none, .op .id [.tmp 30]⟩,
  ⟨some 8, none, .op .id [.tmp 31]⟩]
abbrev debuggerlaw36_MessageReplies.r6 : List Ins := [⟨some 33, none, .op (.loadN 11) [.tmp 6]⟩,
  ⟨some 34, none, .call N.debuggerref36_EncodeReply [.tmp 33]⟩,
  ⟨some 32, none, .op .id [.tmp 34]⟩,
  ⟨some 35, none, .op (.extract 0) [.tmp 32]⟩,
  ⟨some 36, none, .op (.extract 1) [.tmp 32]⟩,
  ⟨some 9, none, .op .id [.tmp 35]⟩,
  ⟨some 10, none, .op .id [.tmp 36]⟩]
abbrev debuggerlaw36_MessageReplies.r7 : List Ins := [⟨some 37, none, .op .id [.tmp 8]⟩,
  ⟨some 38, none, .op .id [.tmp 10]⟩,
  ⟨some 39, none, .op (.bin .neq) [.tmp 37, .tmp 38]⟩,
  ⟨some 40, none, .op .id [.tmp 39]⟩,
  ⟨some 41, some (40, false), .op .id [.tmp 7]⟩,
  ⟨some 42, some (40, false), .op .toStr [.tmp 41]⟩,
  ⟨some 43, some (40, false), .op .id [.tmp 9]⟩,
  ⟨some 44, some (40, false), .op .toStr [.tmp 43]⟩,
  ⟨some 45, some (40, false), .op (.bin .neq) [.tmp 42, .tmp 44]⟩,
  ⟨some 46, none, .op .pick [.tmp 40, .val (.t (.bool true)), .tmp 45]⟩]
abbrev debuggerlaw36_MessageReplies.r8 : List Ins := [⟨some 4, none, .op .id [.val (.t (.bool false))]⟩]
abbrev debuggerlaw36_MessageReplies.r9 : List Ins := [⟨some 47, none, .op .id [.tmp 10]⟩,
  ⟨some 48, none, .op (.bin .eql) [.tmp 47, .val (.t (.int .i64 0))]⟩]
abbrev debuggerlaw36_MessageReplies.r10 : List Ins := [⟨some 50, none, .op .id [.tmp 9]⟩,
  ⟨some 51, none, .call N.message_DecodeReply [.tmp 50]⟩,
  ⟨some 49, none, .op .id [.tmp 51]⟩,
  ⟨some 52, none, .op (.extract 0) [.tmp 49]⟩,
  ⟨some 53, none, .op (.extract 1) [.tmp 49]⟩,
  ⟨some 11, none, .op (.alloc [(.int .i64 0), (.lst 0 true []), (.lst 0 true []), (.lst 0 true []), (.int .i64 0), (.int .i64 0), (.int .i64 0), (.int .i64 0), (.int .i64 0), (.int .i64 0), (.int .i64 0)]) []⟩,
  ⟨none, none, .op (.store 11) [.tmp 11, .tmp 52]⟩,
  ⟨some 12, none, .op .id [.tmp 53]⟩]
abbrev debuggerlaw36_MessageReplies.r11 : List Ins := [⟨some 54, none, .op .id [.tmp 12]⟩,
  ⟨some 55, none, .op (.bin .neq) [.tmp 54, .val (.t (.int .i64 0))]⟩,
  ⟨some 56, none, .op .id [.tmp 55]⟩,
  ⟨some 57, some (56, false), .op (.loadN 11) [.tmp 6]⟩,
  ⟨some 58, some (56, false), .op (.loadN 11) [.tmp 11]⟩,
  ⟨some 59, some (56, false), .call N.debuggerequal_SameReply [.tmp 57, .tmp 58]⟩,
  ⟨some 60, some (56, false), .op (.un .not) [.tmp 59]⟩,
  ⟨some 61, none, .op .pick [.tmp 56, .val (.t (.bool true)), .tmp 60]⟩]
abbrev debuggerlaw36_MessageReplies.r12 : List Ins := [⟨some 4, none, .op .id [.val (.t (.bool false))]⟩]
abbrev debuggerlaw36_MessageReplies.r13 : List Ins := [⟨some 62, none, .op (.bin .add) [.tmp 23, .val (.t (.int .i64 1))]⟩,
  ⟨some 23, none, .op .id [.tmp 62]⟩]
abbrev debuggerlaw36_MessageReplies.l0 : Cd := (.seq (.rgn debuggerlaw36_MessageReplies.r3) (.seq (.cond (.tmp 24) .skip (.exit 0)) (.seq (.block 1 (.seq (.rgn debuggerlaw36_MessageReplies.r4) (.seq (.rgn debuggerlaw36_MessageReplies.r5) (.seq (.rgn debuggerlaw36_MessageReplies.r6) (.seq (.seq (.rgn debuggerlaw36_MessageReplies.r7) (.cond (.tmp 46) (.seq (.rgn debuggerlaw36_MessageReplies.r8) .ret) .skip)) (.seq (.rgn debuggerlaw36_MessageReplies.r9) (.cond (.tmp 48) (.seq (.rgn debuggerlaw36_MessageReplies.r10) (.seq (.rgn debuggerlaw36_MessageReplies.r11) (.cond (.tmp 61) (.seq (.rgn debuggerlaw36_MessageReplies.r12) .ret) .skip))) .skip))))))) (.rgn debuggerlaw36_MessageReplies.r13))))
abbrev debuggerlaw36_MessageReplies.r14 : List Ins := [⟨some 63, none, .call N.debuggerlaw36_awake []⟩,
  ⟨some 4, none, .op .id [.tmp 63]⟩]
abbrev debuggerlaw36_MessageReplies.body : Cd := (.seq (.rgn debuggerlaw36_MessageReplies.r0) (.seq (.seq (.rgn debuggerlaw36_MessageReplies.r1) (.cond (.tmp 15) (.seq (.rgn debuggerlaw36_MessageReplies.r2) .ret) .skip)) (.seq (.seq (.rgnD debuggerlaw36_MessageReplies.d0) (.block 0 (.loop debuggerlaw36_MessageReplies.l0))) (.seq (.rgn debuggerlaw36_MessageReplies.r14) .ret))))
def debuggerlaw36_MessageReplies.af : AF := ⟨2, 64, [.tmp 4], debuggerlaw36_MessageReplies.body⟩
theorem debuggerlaw36_MessageReplies.ok : cFunc PP [] Try.f15 = some debuggerlaw36_MessageReplies.af := by kernel_rfl
theorem debuggerlaw36_MessageReplies.intro {args : List V} {H : Heap} {Q : V → Heap → Prop} (hlen : args.length ≤ 64) (h : wpC (SCall PP) H.length debuggerlaw36_MessageReplies.body (exitK H.length [.tmp 4] Q) ⟨initVs 0 args, H⟩) : SCall PP N.debuggerlaw36_MessageReplies args H Q :=
  SCall.intro Try.func15 (by kernel_rfl) debuggerlaw36_MessageReplies.ok hlen h
/-! ### debugger/debuggerlaw36.MessageOne -/
abbrev debuggerlaw36_MessageOne.r0 : List Ins := [⟨some 5, none, .op .box [.tmp 0]⟩,
  ⟨some 6, none, .op .box [.tmp 1]⟩,
  ⟨some 7, none, .op .box [.tmp 2]⟩,
  ⟨some 8, none, .op .box [.tmp 3]⟩,
  ⟨some 10, none, .op .id [.val (.t (.bool false))]⟩]
abbrev debuggerlaw36_MessageOne.r1 : List Ins := [⟨some 27, none, .op (.fieldA 4) [.tmp 5]⟩,
  ⟨some 28, none, .op .load1 [.tmp 27]⟩,
  ⟨some 29, none, .op .len [.tmp 28]⟩,
  ⟨some 30, none, .op (.bin .gtr) [.tmp 29, .val (.t (.int .i64 20))]⟩,
  ⟨some 31, none, .op .id [.tmp 30]⟩,
  ⟨some 32, some (31, false), .op (.fieldA 4) [.tmp 6]⟩,
  ⟨some 33, some (31, false), .op .load1 [.tmp 32]⟩,
  ⟨some 34, some (31, false), .op .len [.tmp 33]⟩,
  ⟨some 35, some (31, false), .op (.bin .gtr) [.tmp 34, .val (.t (.int .i64 20))]⟩,
  ⟨some 36, none, .op .pick [.tmp 31, .val (.t (.bool true)), .tmp 35]⟩,
  ⟨some 37, none, .op .id [.tmp 36]⟩,
  ⟨some 38, some (37, false), .op (.loadN 11) [.tmp 7]⟩,
  ⟨some 39, some (37, false), .call N.debuggerlaw36_small [.tmp 38]⟩,
  ⟨some 40, some (37, false), .op (.un .not) [.tmp 39]⟩,
  ⟨some 41, none, .op .pick [.tmp 37, .val (.t (.bool true)), .tmp 40]⟩,
  ⟨some 42, none, .op .id [.tmp 41]⟩,
  ⟨some 43, some (42, false), .op (.loadN 11) [.tmp 8]⟩,
  ⟨some 44, some (42, false), .call N.debuggerlaw36_small [.tmp 43]⟩,
  ⟨some 45, some (42, false), .op (.un .not) [.tmp 44]⟩,
  ⟨some 46, none, .op .pick [.tmp 42, .val (.t (.bool true)), .tmp 45]⟩,
  ⟨some 47, none, .op .id [.tmp 46]⟩,
  ⟨some 48, some (47, false), .op .id [.tmp 4]⟩,
  ⟨some 49, some (47, false), .op .len [.tmp 48]⟩,
  ⟨some 50, some (47, false), .op (.bin .gtr) [.tmp 49, .val (.t (.int .i64 500))]⟩,
  ⟨some 51, none, .op .pick [.tmp 47, .val (.t (.bool true)), .tmp 50]⟩]
abbrev debuggerlaw36_MessageOne.r2 : List Ins := [⟨some 52, none, .call N.debuggerlaw36_awake []⟩,
  ⟨some 10, none, .op .id [.tmp 52]⟩]
abbrev debuggerlaw36_MessageOne.r3 : List Ins := [⟨some 54, none, .op (.loadN 5) [.tmp 5]⟩,
  ⟨some 55, none, .call N.message_EncodeCommand [.tmp 54]⟩,
  ⟨some 53, none, .op .id [.tmp 55]⟩,
  ⟨some 56, none, .op (.extract 0) [.tmp 53]⟩,
  ⟨some 57, none, .op (.extract 1) [.tmp 53]⟩,
  ⟨some 11, none, .op .id [.tmp 56]⟩,
  ⟨some 12, none, .op .id [.tmp 57]⟩]
abbrev debuggerlaw36_MessageOne.r4 : List Ins := [⟨some 59, none, .op (.loadN 5) [.tmp 6]⟩,
  ⟨some 60, none, .call N.message_EncodeCommand [.tmp 59]⟩,
  ⟨some 58, none, .op .id [.tmp 60]⟩,
  ⟨some 61, none, .op (.extract 0) [.tmp 58]⟩,
  ⟨some 62, none, .op (.extract 1) [.tmp 58]⟩,
  ⟨some 13, none, .op .id [.tmp 61]⟩,
  ⟨some 14, none, .op .id [.tmp 62]⟩]
abbrev debuggerlaw36_MessageOne.d0 : Plan := (.val ⟨some 63, none, .op (.loadN 11) [.tmp 7]⟩
  (.val ⟨some 65, none, .op (.loadN 11) [.tmp 8]⟩
  (.eff ⟨some 64, none, .call N.debuggerlaw36_near [.tmp 63, .val (.t (.int .i64 7))]⟩ [⟨some 65, none, .op (.loadN 11) [.tmp 8]⟩]
  (.eff ⟨some 66, none, .call N.debuggerlaw36_near [.tmp 65, .val (.t (.int .i64 7))]⟩ []
  (.eff ⟨none, none, .op (.store 11) [.tmp 7, .tmp 64]⟩ []
  (.eff ⟨none, none, .op (.store 11) [.tmp 8, .tmp 66]⟩ []
  .fin))))))
abbrev debuggerlaw36_MessageOne.d1 : Plan := (.val ⟨some 67, none, .op (.fieldA 1) [.tmp 7]⟩
  (.val ⟨some 68, none, .op .load1 [.tmp 67]⟩
  (.val ⟨some 69, none, .op (.fieldA 1) [.tmp 7]⟩
  (.val ⟨some 70, none, .op .load1 [.tmp 69]⟩
  (.val ⟨some 71, none, .op .len [.tmp 70]⟩
  (.val ⟨some 72, none, .op .min2 [.tmp 71, .val (.t (.int .i64 50))]⟩
  (.val ⟨some 73, none, .op (.slice 1 false true) [.tmp 68, .tmp 72]⟩
  (.val ⟨some 74, none, .op (.fieldA 1) [.tmp 8]⟩
  (.val ⟨some 75, none, .op .load1 [.tmp 74]⟩
  (.val ⟨some 76, none, .op (.fieldA 1) [.tmp 8]⟩
  (.val ⟨some 77, none, .op .load1 [.tmp 76]⟩
  (.val ⟨some 78, none, .op .len [.tmp 77]⟩
  (.val ⟨some 79, none, .op .min2 [.tmp 78, .val (.t (.int .i64 50))]⟩
  (.val ⟨some 80, none, .op (.slice 1 false true) [.tmp 75, .tmp 79]⟩
  (.val ⟨some 81, none, .op (.fieldA 3) [.tmp 7]⟩
  (.val ⟨some 82, none, .op .load1 [.tmp 81]⟩
  (.val ⟨some 83, none, .op (.fieldA 3) [.tmp 7]⟩
  (.val ⟨some 84, none, .op .load1 [.tmp 83]⟩
  (.val ⟨some 85, none, .op .len [.tmp 84]⟩
  (.val ⟨some 86, none, .op .min2 [.tmp 85, .val (.t (.int .i64 50))]⟩
  (.val ⟨some 87, none, .op (.slice 2 false true) [.tmp 82, .tmp 86]⟩
  (.val ⟨some 88, none, .op (.fieldA 3) [.tmp 8]⟩
  (.val ⟨some 89, none, .op .load1 [.tmp 88]⟩
  (.val ⟨some 90, none, .op (.fieldA 3) [.tmp 8]⟩
  (.val ⟨some 91, none, .op .load1 [.tmp 90]⟩
  (.val ⟨some 92, none, .op .len [.tmp 91]⟩
  (.val ⟨some 93, none, .op .min2 [.tmp 92, .val (.t (.int .i64 50))]⟩
  (.val ⟨some 94, none, .op (.slice 2 false true) [.tmp 89, .tmp 93]⟩
  (.val ⟨some 95, none, .op (.fieldA 1) [.tmp 7]⟩
  (.eff ⟨none, none, .op (.store 1) [.tmp 95, .tmp 73]⟩ [⟨some 75, none, .op .load1 [.tmp 74]⟩, ⟨some 77, none, .op .load1 [.tmp 76]⟩]
  (.val ⟨some 96, none, .op (.fieldA 1) [.tmp 8]⟩
  (.eff ⟨none, none, .op (.store 1) [.tmp 96, .tmp 80]⟩ []
  (.val ⟨some 97, none, .op (.fieldA 3) [.tmp 7]⟩
  (.eff ⟨none, none, .op (.store 1) [.tmp 97, .tmp 87]⟩ []
  (.val ⟨some 98, none, .op (.fieldA 3) [.tmp 8]⟩
  (.eff ⟨none, none, .op (.store 1) [.tmp 98, .tmp 94]⟩ []
  .fin))))))))))))))))))))))))))))))))))))
abbrev debuggerlaw36_MessageOne.r5 : List Ins := [⟨some 100, none, .op (.loadN 11) [.tmp 7]⟩,
  ⟨some 101, none, .call N.message_EncodeReply [.tmp 100]⟩,
  ⟨some 99, none, .op .id [.tmp 101]⟩,
  ⟨some 102, none, .op (.extract 0) [.tmp 99]⟩,
  ⟨some 103, none, .op (.extract 1) [.tmp 99]⟩,
  ⟨some 15, none, .op .id [.tmp 102]⟩,
  ⟨some 16, none, .op .id [.tmp 103]⟩]
abbrev debuggerlaw36_MessageOne.r6 : List Ins := [⟨some 105, none, .op (.loadN 11) [.tmp 8]⟩,
  ⟨some 106, none, .call N.message_EncodeReply [.tmp 105]⟩,
  ⟨some 104, none, .op .id [.tmp 106]⟩,
  ⟨some 107, none, .op (.extract 0) [.tmp 104]⟩,
  ⟨some 108, none, .op (.extract 1) [.tmp 104]⟩,
  ⟨some 17, none, .op .id [.tmp 107]⟩,
  ⟨some 18, none, .op .id [.tmp 108]⟩]
abbrev debuggerlaw36_MessageOne.d2 : Plan := (.val ⟨some 109, none, .op .id [.tmp 12]⟩
  (.val ⟨some 110, none, .op (.bin .neq) [.tmp 109, .val (.t (.int .i64 0))]⟩
  (.val ⟨some 111, none, .op .id [.tmp 110]⟩
  (.val ⟨some 112, some (111, false), .op .id [.tmp 14]⟩
  (.val ⟨some 113, some (111, false), .op (.bin .neq) [.tmp 112, .val (.t (.int .i64 0))]⟩
  (.val ⟨some 114, none, .op .pick [.tmp 111, .val (.t (.bool true)), .tmp 113]⟩
  (.val ⟨some 115, none, .op .id [.tmp 114]⟩
  (.val ⟨some 116, some (115, false), .op .id [.tmp 16]⟩
  (.val ⟨some 117, some (115, false), .op (.bin .neq) [.tmp 116, .val (.t (.int .i64 0))]⟩
  (.val ⟨some 118, none, .op .pick [.tmp 115, .val (.t (.bool true)), .tmp 117]⟩
  (.val ⟨some 119, none, .op .id [.tmp 118]⟩
  (.val ⟨some 120, some (119, false), .op .id [.tmp 18]⟩
  (.val ⟨some 121, some (119, false), .op (.bin .neq) [.tmp 120, .val (.t (.int .i64 0))]⟩
  (.val ⟨some 122, none, .op .pick [.tmp 119, .val (.t (.bool true)), .tmp 121]⟩
  (.val ⟨some 123, none, .op .id [.tmp 122]⟩
  (.val ⟨some 124, some (123, false), .op .id [.tmp 11]⟩
  (.val ⟨some 125, some (123, false), .op .toStr [.tmp 124]⟩
  (.val ⟨some 126, some (123, false), .op .id [.tmp 13]⟩
  (.val ⟨some 127, some (123, false), .op .toStr [.tmp 126]⟩
  (.val ⟨some 128, some (123, false), .op (.bin .eql) [.tmp 125, .tmp 127]⟩
  (.val ⟨some 129, some (123, false), .op (.loadN 5) [.tmp 5]⟩
  (.val ⟨some 130, some (123, false), .op (.loadN 5) [.tmp 6]⟩
  (.eff ⟨some 131, some (123, false), .call N.debuggerequal_SameCommand [.tmp 129, .tmp 130]⟩ [⟨some 125, some (123, false), .op .toStr [.tmp 124]⟩, ⟨some 127, some (123, false), .op .toStr [.tmp 126]⟩]
  (.val ⟨some 132, some (123, false), .op (.binB .neq) [.tmp 128, .tmp 131]⟩
  (.val ⟨some 133, none, .op .pick [.tmp 123, .val (.t (.bool true)), .tmp 132]⟩
  (.val ⟨some 134, none, .op .id [.tmp 133]⟩
  (.val ⟨some 135, some (134, false), .op .id [.tmp 15]⟩
  (.val ⟨some 136, some (134, false), .op .toStr [.tmp 135]⟩
  (.val ⟨some 137, some (134, false), .op .id [.tmp 17]⟩
  (.val ⟨some 138, some (134, false), .op .toStr [.tmp 137]⟩
  (.val ⟨some 139, some (134, false), .op (.bin .eql) [.tmp 136, .tmp 138]⟩
  (.val ⟨some 140, some (134, false), .op (.loadN 11) [.tmp 7]⟩
  (.val ⟨some 141, some (134, false), .op (.loadN 11) [.tmp 8]⟩
  (.eff ⟨some 142, some (134, false), .call N.debuggerequal_SameReply [.tmp 140, .tmp 141]⟩ [⟨some 136, some (134, false), .op .toStr [.tmp 135]⟩, ⟨some 138, some (134, false), .op .toStr [.tmp 137]⟩]
  (.val ⟨some 143, some (134, false), .op (.binB .neq) [.tmp 139, .tmp 142]⟩
  (.val ⟨some 144, none, .op .pick [.tmp 134, .val (.t (.bool true)), .tmp 143]⟩
  .fin))))))))))))))))))))))))))))))))))))
abbrev debuggerlaw36_MessageOne.r7 : List Ins := [⟨some 10, none, .op .id [.val (.t (.bool false))]⟩]
abbrev debuggerlaw36_MessageOne.r8 : List Ins := [⟨some 146, none, .op .id [.tmp 4]⟩,
  ⟨some 147, none, .call N.message_DecodeCommand [.tmp 146]⟩,
  ⟨some 145, none, .op .id [.tmp 147]⟩,
  ⟨some 148, none, .op (.extract 0) [.tmp 145]⟩,
  ⟨some 149, none, .op (.extract 1) [.tmp 145]⟩,
  ⟨some 19, none, .op (.alloc [(.int .i64 0), (.int .i64 0), (.int .i64 0), (.int .i64 0), (.lst 0 true [])]) []⟩,
  ⟨none, none, .op (.store 5) [.tmp 19, .tmp 148]⟩,
  ⟨some 20, none, .op .id [.tmp 149]⟩]
abbrev debuggerlaw36_MessageOne.r9 : List Ins := [⟨some 150, none, .op .id [.tmp 20]⟩,
  ⟨some 151, none, .op (.bin .eql) [.tmp 150, .val (.t (.int .i64 0))]⟩]
abbrev debuggerlaw36_MessageOne.r10 : List Ins := [⟨some 153, none, .op (.loadN 5) [.tmp 19]⟩,
  ⟨some 154, none, .call N.message_EncodeCommand [.tmp 153]⟩,
  ⟨some 152, none, .op .id [.tmp 154]⟩,
  ⟨some 155, none, .op (.extract 0) [.tmp 152]⟩,
  ⟨some 156, none, .op (.extract 1) [.tmp 152]⟩,
  ⟨some 21, none, .op .id [.tmp 155]⟩,
  ⟨some 22, none, .op .id [.tmp 156]⟩]
abbrev debuggerlaw36_MessageOne.r11 : List Ins := [⟨some 157, none, .op .id [.tmp 22]⟩,
  ⟨some 158, none, .op (.bin .neq) [.tmp 157, .val (.t (.int .i64 0))]⟩,
  ⟨some 159, none, .op .id [.tmp 158]⟩,
  ⟨some 160, some (159, false), .op .id [.tmp 21]⟩,
  ⟨some 161, some (159, false), .op .toStr [.tmp 160]⟩,
  ⟨some 162, some (159, false), .op .id [.tmp 4]⟩,
  ⟨some 163, some (159, false), .op .toStr [.tmp 162]⟩,
  ⟨some 164, some (159, false), .op (.bin .neq) [.tmp 161, .tmp 163]⟩,
  ⟨some 165, none, .op .pick [.tmp 159, .val (.t (.bool true)), .tmp 164]⟩]
abbrev debuggerlaw36_MessageOne.r12 : List Ins := [⟨some 10, none, .op .id [.val (.t (.bool false))]⟩]
abbrev debuggerlaw36_MessageOne.r13 : List Ins := [⟨some 167, none, .op .id [.tmp 4]⟩,
  ⟨some 168, none, .call N.message_DecodeReply [.tmp 167]⟩,
  ⟨some 166, none, .op .id [.tmp 168]⟩,
  ⟨some 169, none, .op (.extract 0) [.tmp 166]⟩,
  ⟨some 170, none, .op (.extract 1) [.tmp 166]⟩,
  ⟨some 23, none, .op (.alloc [(.int .i64 0), (.lst 0 true []), (.lst 0 true []), (.lst 0 true []), (.int .i64 0), (.int .i64 0), (.int .i64 0), (.int .i64 0), (.int .i64 0), (.int .i64 0), (.int .i64 0)]) []⟩,
  ⟨none, none, .op (.store 11) [.tmp 23, .tmp 169]⟩,
  ⟨some 24, none, .op .id [.tmp 170]⟩]
abbrev debuggerlaw36_MessageOne.r14 : List Ins := [⟨some 171, none, .op .id [.tmp 24]⟩,
  ⟨some 172, none, .op (.bin .eql) [.tmp 171, .val (.t (.int .i64 0))]⟩]
abbrev debuggerlaw36_MessageOne.r15 : List Ins := [⟨some 174, none, .op (.loadN 11) [.tmp 23]⟩,
  ⟨some 175, none, .call N.message_EncodeReply [.tmp 174]⟩,
  ⟨some 173, none, .op .id [.tmp 175]⟩,
  ⟨some 176, none, .op (.extract 0) [.tmp 173]⟩,
  ⟨some 177, none, .op (.extract 1) [.tmp 173]⟩,
  ⟨some 25, none, .op .id [.tmp 176]⟩,
  ⟨some 26, none, .op .id [.tmp 177]⟩]
abbrev debuggerlaw36_MessageOne.r16 : List Ins := [⟨some 178, none, .op .id [.tmp 26]⟩,
  ⟨some 179, none, .op (.bin .neq) [.tmp 178, .val (.t (.int .i64 0))]⟩,
  ⟨some 180, none, .op .id [.tmp 179]⟩,
  ⟨some 181, some (180, false), .op .id [.tmp 25]⟩,
  ⟨some 182, some (180, false), .op .toStr [.tmp 181]⟩,
  ⟨some 183, some (180, false), .op .id [.tmp 4]⟩,
  ⟨some 184, some (180, false), .op .toStr [.tmp 183]⟩,
  ⟨some 185, some (180, false), .op (.bin .neq) [.tmp 182, .tmp 184]⟩,
  ⟨some 186, none, .op .pick [.tmp 180, .val (.t (.bool true)), .tmp 185]⟩]
abbrev debuggerlaw36_MessageOne.r17 : List Ins := [⟨some 10, none, .op .id [.val (.t (.bool false))]⟩]
abbrev debuggerlaw36_MessageOne.r18 : List Ins := [⟨some 187, none, .call N.debuggerlaw36_awake []⟩,
  ⟨some 10, none, .op .id [.tmp 187]⟩]
abbrev debuggerlaw36_MessageOne.body : Cd := (.seq (.rgn debuggerlaw36_MessageOne.r0) (.seq (.seq (.rgn debuggerlaw36_MessageOne.r1) (.cond (.tmp 51) (.seq (.rgn debuggerlaw36_MessageOne.r2) .ret) .skip)) (.seq (.rgn debuggerlaw36_MessageOne.r3) (.seq (.rgn debuggerlaw36_MessageOne.r4) (.seq (.rgnD debuggerlaw36_MessageOne.d0) (.seq (.rgnD debuggerlaw36_MessageOne.d1) (.seq (.rgn debuggerlaw36_MessageOne.r5) (.seq (.rgn debuggerlaw36_MessageOne.r6) (.seq (.seq (.rgnD debuggerlaw36_MessageOne.d2) (.cond (.tmp 144) (.seq (.rgn debuggerlaw36_MessageOne.r7) .ret) .skip)) (.seq (.seq (.rgn debuggerlaw36_MessageOne.r8) (.seq (.rgn debuggerlaw36_MessageOne.r9) (.cond (.tmp 151) (.seq (.rgn debuggerlaw36_MessageOne.r10) (.seq (.rgn debuggerlaw36_MessageOne.r11) (.cond (.tmp 165) (.seq (.rgn debuggerlaw36_MessageOne.r12) .ret) .skip))) .skip))) (.seq (.seq (.rgn debuggerlaw36_MessageOne.r13) (.seq (.rgn debuggerlaw36_MessageOne.r14) (.cond (.tmp 172) (.seq (.rgn debuggerlaw36_MessageOne.r15) (.seq (.rgn debuggerlaw36_MessageOne.r16) (.cond (.tmp 186) (.seq (.rgn debuggerlaw36_MessageOne.r17) .ret) .skip))) .skip))) (.seq (.rgn debuggerlaw36_MessageOne.r18) .ret))))))))))))
def debuggerlaw36_MessageOne.af : AF := ⟨5, 188, [.tmp 10], debuggerlaw36_MessageOne.body⟩
theorem debuggerlaw36_MessageOne.ok : cFunc PP [] Try.f16 = some debuggerlaw36_MessageOne.af := by kernel_rfl
theorem debuggerlaw36_MessageOne.intro {args : List V} {H : Heap} {Q : V → Heap → Prop} (hlen : args.length ≤ 188) (h : wpC (SCall PP) H.length debuggerlaw36_MessageOne.body (exitK H.length [.tmp 10] Q) ⟨initVs 0 args, H⟩) : SCall PP N.debuggerlaw36_MessageOne args H Q :=
  SCall.intro Try.func16 (by kernel_rfl) debuggerlaw36_MessageOne.ok hlen h
/-! ### debugger/debuggerlaw36.awake -/
abbrev debuggerlaw36_awake.r0 : List Ins := [⟨some 0, none, .op .id [.val (.t (.bool false))]⟩]
abbrev debuggerlaw36_awake.r1 : List Ins := [⟨some 6, none, .op (.build [(.int .i64 0), (.int .i64 0), (.int .i64 0), (.int .i64 0), (.lst 0 true [])] [(0, 1)]) [.val (.t (.int .i64 2))]⟩,
  ⟨some 7, none, .call N.message_EncodeCommand [.tmp 6]⟩,
  ⟨some 5, none, .op .id [.tmp 7]⟩,
  ⟨some 8, none, .op (.extract 0) [.tmp 5]⟩,
  ⟨some 9, none, .op (.extract 1) [.tmp 5]⟩,
  ⟨some 1, none, .op .id [.tmp 8]⟩,
  ⟨some 2, none, .op .id [.tmp 9]⟩]
abbrev debuggerlaw36_awake.r2 : List Ins := [⟨some 11, none, .op .id [.tmp 1]⟩,
  ⟨some 12, none, .call N.message_DecodeCommand [.tmp 11]⟩,
  ⟨some 10, none, .op .id [.tmp 12]⟩,
  ⟨some 13, none, .op (.extract 0) [.tmp 10]⟩,
  ⟨some 14, none, .op (.extract 1) [.tmp 10]⟩,
  ⟨some 3, none, .op (.alloc [(.int .i64 0), (.int .i64 0), (.int .i64 0), (.int .i64 0), (.lst 0 true [])]) []⟩,
  ⟨none, none, .op (.store 5) [.tmp 3, .tmp 13]⟩,
  ⟨some 4, none, .op .id [.tmp 14]⟩]
abbrev debuggerlaw36_awake.r3 : List Ins := [⟨some 15, none, .op .id [.tmp 2]⟩,
  ⟨some 16, none, .op (.bin .eql) [.tmp 15, .val (.t (.int .i64 0))]⟩,
  ⟨some 17, none, .op .id [.tmp 16]⟩,
  ⟨some 18, some (17, true), .op .id [.tmp 1]⟩,
  ⟨some 19, some (17, true), .op .len [.tmp 18]⟩,
  ⟨some 20, some (17, true), .op (.bin .eql) [.tmp 19, .val (.t (.int .i64 6))]⟩,
  ⟨some 21, none, .op .pick [.tmp 17, .tmp 20, .val (.t (.bool false))]⟩,
  ⟨some 22, none, .op .id [.tmp 21]⟩,
  ⟨some 23, some (22, true), .op .id [.tmp 4]⟩,
  ⟨some 24, some (22, true), .op (.bin .eql) [.tmp 23, .val (.t (.int .i64 0))]⟩,
  ⟨some 25, none, .op .pick [.tmp 22, .tmp 24, .val (.t (.bool false))]⟩,
  ⟨some 26, none, .op .id [.tmp 25]⟩,
  ⟨some 27, some (26, true), .op (.fieldA 0) [.tmp 3]⟩,
  ⟨some 28, some (26, true), .op .load1 [.tmp 27]⟩,
  ⟨some 29, some (26, true), .op (.bin .eql) [.tmp 28, .val (.t (.int .i64 2))]⟩,
  ⟨some 30, none, .op .pick [.tmp 26, .tmp 29, .val (.t (.bool false))]⟩,
  ⟨some 0, none, .op .id [.tmp 30]⟩]
abbrev debuggerlaw36_awake.body : Cd := (.seq (.rgn debuggerlaw36_awake.r0) (.seq (.rgn debuggerlaw36_awake.r1) (.seq (.rgn debuggerlaw36_awake.r2) (.seq (.rgn debuggerlaw36_awake.r3) .ret))))
def debuggerlaw36_awake.af : AF := ⟨0, 31, [.tmp 0], debuggerlaw36_awake.body⟩
theorem debuggerlaw36_awake.ok : cFunc PP [] Try.f32 = some debuggerlaw36_awake.af := by kernel_rfl
theorem debuggerlaw36_awake.intro {args : List V} {H : Heap} {Q : V → Heap → Prop} (hlen : args.length ≤ 31) (h : wpC (SCall PP) H.length debuggerlaw36_awake.body (exitK H.length [.tmp 0] Q) ⟨initVs 0 args, H⟩) : SCall PP N.debuggerlaw36_awake args H Q :=
  SCall.intro Try.func32 (by kernel_rfl) debuggerlaw36_awake.ok hlen h
/-! ### debugger/debuggerlaw36.small -/
abbrev debuggerlaw36_small.r0 : List Ins := [⟨some 1, none, .op .box [.tmp 0]⟩,
  ⟨some 2, none, .op .id [.val (.t (.bool false))]⟩]
abbrev debuggerlaw36_small.r1 : List Ins := [⟨some 4, none, .op (.fieldA 1) [.tmp 1]⟩,
  ⟨some 5, none, .op .load1 [.tmp 4]⟩,
  ⟨some 6, none, .op .len [.tmp 5]⟩,
  ⟨some 7, none, .op (.bin .gtr) [.tmp 6, .val (.t (.int .i64 300))]⟩,
  ⟨some 8, none, .op .id [.tmp 7]⟩,
  ⟨some 9, some (8, false), .op (.fieldA 2) [.tmp 1]⟩,
  ⟨some 10, some (8, false), .op .load1 [.tmp 9]⟩,
  ⟨some 11, some (8, false), .op .len [.tmp 10]⟩,
  ⟨some 12, some (8, false), .op (.bin .gtr) [.tmp 11, .val (.t (.int .i64 20))]⟩,
  ⟨some 13, none, .op .pick [.tmp 8, .val (.t (.bool true)), .tmp 12]⟩,
  ⟨some 14, none, .op .id [.tmp 13]⟩,
  ⟨some 15, some (14, false), .op (.fieldA 3) [.tmp 1]⟩,
  ⟨some 16, some (14, false), .op .load1 [.tmp 15]⟩,
  ⟨some 17, some (14, false), .op .len [.tmp 16]⟩,
  ⟨some 18, some (14, false), .op (.bin .gtr) [.tmp 17, .val (.t (.int .i64 300))]⟩,
  ⟨some 19, none, .op .pick [.tmp 14, .val (.t (.bool true)), .tmp 18]⟩]
abbrev debuggerlaw36_small.r2 : List Ins := [⟨some 2, none, .op .id [.val (.t (.bool false))]⟩]
abbrev debuggerlaw36_small.r3 : List Ins := [⟨some 3, none, .op .id [.val (.t (.int .i64 0))]⟩]
abbrev debuggerlaw36_small.r4 : List Ins := [⟨some 20, none, .op .id [.tmp 3]⟩,
  ⟨some 21, none, .op (.fieldA 2) [.tmp 1]⟩,
  ⟨some 22, none, .op .load1 [.tmp 21]⟩,
  ⟨some 23, none, .op .len [.tmp 22]⟩,
  ⟨some 24, none, .op (.bin .lss) [.tmp 20, .tmp 23]⟩]
abbrev debuggerlaw36_small.r5 : List Ins := [⟨some 27, none, .op (.fieldA 2) [.tmp 1]⟩,
  ⟨some 28, none, .op .load1 [.tmp 27]⟩,
  ⟨some 29, none, .op .id [.tmp 3]⟩,
  ⟨some 30, none, .op (.idxS 20) [.tmp 28, .tmp 29]⟩,
  ⟨some 31, none, .op (.fieldA 19) [.tmp 30]⟩,
  ⟨some 32, none, .op .load1 [.tmp 31]⟩,
  ⟨some 33, none, .op .len [.tmp 32]⟩,
  ⟨some 34, none, .op (.bin .gtr) [.tmp 33, .val (.t (.int .i64 20))]⟩]
abbrev debuggerlaw36_small.r6 : List Ins := [⟨some 2, none, .op .id [.val (.t (.bool false))]⟩]
abbrev debuggerlaw36_small.r7 : List Ins := [⟨some 25, none, .op .id [.tmp 3]⟩,
  ⟨some 26, none, .op (.bin .add) [.tmp 25, .val (.t (.int .i64 1))]⟩,
  ⟨some 3, none, .op .id [.tmp 26]⟩]
abbrev debuggerlaw36_small.l0 : Cd := (.seq (.seq (.rgn debuggerlaw36_small.r4) (.cond (.tmp 24) .skip (.exit 0))) (.seq (.block 1 (.seq (.rgn debuggerlaw36_small.r5) (.cond (.tmp 34) (.seq (.rgn debuggerlaw36_small.r6) .ret) .skip))) (.rgn debuggerlaw36_small.r7)))
abbrev debuggerlaw36_small.r8 : List Ins := [⟨some 2, none, .op .id [.val (.t (.bool true))]⟩]
abbrev debuggerlaw36_small.body : Cd := (.seq (.rgn debuggerlaw36_small.r0) (.seq (.seq (.rgn debuggerlaw36_small.r1) (.cond (.tmp 19) (.seq (.rgn debuggerlaw36_small.r2) .ret) .skip)) (.seq (.seq (.rgn debuggerlaw36_small.r3) (.block 0 (.loop debuggerlaw36_small.l0))) (.seq (.rgn debuggerlaw36_small.r8) .ret))))
def debuggerlaw36_small.af : AF := ⟨1, 35, [.tmp 2], debuggerlaw36_small.body⟩
theorem debuggerlaw36_small.ok : cFunc PP [] Try.f46 = some debuggerlaw36_small.af := by kernel_rfl
theorem debuggerlaw36_small.intro {args : List V} {H : Heap} {Q : V → Heap → Prop} (hlen : args.length ≤ 35) (h : wpC (SCall PP) H.length debuggerlaw36_small.body (exitK H.length [.tmp 2] Q) ⟨initVs 0 args, H⟩) : SCall PP N.debuggerlaw36_small args H Q :=
  SCall.intro Try.func46 (by kernel_rfl) debuggerlaw36_small.ok hlen h
/-! ### debugger/debuggerlaw36.near -/
abbrev debuggerlaw36_near.r0 : List Ins := [⟨some 2, none, .op .box [.tmp 0]⟩,
  ⟨some 4, none, .op (.alloc [(.int .i64 0), (.lst 0 true []), (.lst 0 true []), (.lst 0 true []), (.int .i64 0), (.int .i64 0), (.int .i64 0), (.int .i64 0), (.int .i64 0), (.int .i64 0), (.int .i64 0)]) []⟩]
abbrev debuggerlaw36_near.r1 : List Ins := [⟨some 6, none, .op (.buildSlice 20 (.agg [(.int .i64 0), (.int .i64 0), (.int .i64 0), (.int .i64 0), (.int .i64 0), (.int .i64 0), (.int .i64 0), (.int .i64 0), (.int .i64 0), (.int .i64 0), (.int .i64 0), (.int .i64 0), (.int .i64 0), (.int .i64 0), (.int .i64 0), (.int .i64 0), (.int .i64 0), (.int .i64 0), (.int .i64 0), (.lst 0 true [])]) 0 []) []⟩,
  ⟨some 7, none, .op (.fieldA 2) [.tmp 2]⟩,
  ⟨some 8, none, .op .load1 [.tmp 7]⟩,
  ⟨some 9, none, .op (.append 20 176) [.tmp 6, .tmp 8]⟩,
  ⟨some 10, none, .op (.fieldA 2) [.tmp 2]⟩,
  ⟨none, none, .op (.store 1) [.tmp 10, .tmp 9]⟩]
abbrev debuggerlaw36_near.r2 : List Ins := [⟨some 5, none, .op .id [.val (.t (.int .i64 0))]⟩]
abbrev debuggerlaw36_near.r3 : List Ins := [⟨some 11, none, .op .id [.tmp 5]⟩,
  ⟨some 12, none, .op (.fieldA 2) [.tmp 2]⟩,
  ⟨some 13, none, .op .load1 [.tmp 12]⟩,
  ⟨some 14, none, .op .len [.tmp 13]⟩,
  ⟨some 15, none, .op (.bin .lss) [.tmp 11, .tmp 14]⟩]
abbrev debuggerlaw36_near.d0 : Plan := (.val ⟨some 18, none, .op (.fieldA 2) [.tmp 2]⟩
  (.val ⟨some 19, none, .op .load1 [.tmp 18]⟩
  (.val ⟨some 20, none, .op .id [.tmp 5]⟩
  (.val ⟨some 21, none, .op (.fieldA 2) [.tmp 2]⟩
  (.val ⟨some 22, none, .op .load1 [.tmp 21]⟩
  (.val ⟨some 23, none, .op .id [.tmp 5]⟩
  (.val ⟨some 24, none, .op (.idxS 20) [.tmp 22, .tmp 23]⟩
  (.val ⟨some 25, none, .op (.fieldA 19) [.tmp 24]⟩
  (.val ⟨some 26, none, .op .load1 [.tmp 25]⟩
  (.val ⟨some 27, none, .op (.fieldA 2) [.tmp 2]⟩
  (.val ⟨some 28, none, .op .load1 [.tmp 27]⟩
  (.val ⟨some 29, none, .op .id [.tmp 5]⟩
  (.val ⟨some 30, none, .op (.idxS 20) [.tmp 28, .tmp 29]⟩
  (.val ⟨some 31, none, .op (.fieldA 19) [.tmp 30]⟩
  (.val ⟨some 32, none, .op .load1 [.tmp 31]⟩
  (.val ⟨some 33, none, .op .len [.tmp 32]⟩
  (.val ⟨some 34, none, .op .min2 [.tmp 33, .val (.t (.int .i64 4))]⟩
  (.val ⟨some 35, none, .op (.slice 1 false true) [.tmp 26, .tmp 34]⟩
  (.val ⟨some 36, none, .op (.idxS 20) [.tmp 19, .tmp 20]⟩
  (.val ⟨some 37, none, .op (.fieldA 19) [.tmp 36]⟩
  (.eff ⟨none, none, .op (.store 1) [.tmp 37, .tmp 35]⟩ []
  .fin)))))))))))))))))))))
abbrev debuggerlaw36_near.r4 : List Ins := [⟨some 16, none, .op .id [.tmp 5]⟩,
  ⟨some 17, none, .op (.bin .add) [.tmp 16, .val (.t (.int .i64 1))]⟩,
  ⟨some 5, none, .op .id [.tmp 17]⟩]
abbrev debuggerlaw36_near.l0 : Cd := (.seq (.seq (.rgn debuggerlaw36_near.r3) (.cond (.tmp 15) .skip (.exit 0))) (.seq (.block 1 (.rgnD debuggerlaw36_near.d0)) (.rgn debuggerlaw36_near.r4)))
abbrev debuggerlaw36_near.r5 : List Ins := [⟨some 38, none, .op (.fieldA 2) [.tmp 2]⟩,
  ⟨some 39, none, .op .load1 [.tmp 38]⟩,
  ⟨some 40, none, .op (.fieldA 2) [.tmp 2]⟩,
  ⟨some 41, none, .op .load1 [.tmp 40]⟩,
  ⟨some 42, none, .op .len [.tmp 41]⟩,
  ⟨some 43, none, .op .min2 [.tmp 42, .val (.t (.int .i64 8))]⟩,
  ⟨some 44, none, .op (.slice 20 false true) [.tmp 39, .tmp 43]⟩,
  ⟨some 45, none, .op (.fieldA 2) [.tmp 2]⟩,
  ⟨none, none, .op (.store 1) [.tmp 45, .tmp 44]⟩]
abbrev debuggerlaw36_near.r6 : List Ins := [⟨some 46, none, .op .id [.tmp 1]⟩,
  ⟨some 47, none, .call N.debuggerkit_Mod [.tmp 46, .val (.t (.int .i64 8))]⟩]
abbrev debuggerlaw36_near.r7 : List Ins := [⟨some 49, none, .op (.bin .eql) [.tmp 47, .val (.t (.int .i64 0))]⟩,
  ⟨some 48, none, .op .id [.tmp 49]⟩]
abbrev debuggerlaw36_near.r8 : List Ins := [⟨some 50, none, .op .id [.tmp 1]⟩,
  ⟨some 51, none, .op (.bin .and) [.tmp 50, .val (.t (.int .i64 1))]⟩,
  ⟨some 52, none, .op (.bin .add) [.val (.t (.int .i64 128)), .tmp 51]⟩,
  ⟨some 53, none, .op (.makeSlice 1 8 (.int .i64 0)) [.tmp 52, .tmp 52]⟩,
  ⟨some 54, none, .op (.fieldA 1) [.tmp 2]⟩,
  ⟨none, none, .op (.store 1) [.tmp 54, .tmp 53]⟩]
abbrev debuggerlaw36_near.r9 : List Ins := [⟨some 56, none, .op (.bin .eql) [.tmp 47, .val (.t (.int .i64 1))]⟩,
  ⟨some 55, none, .op .id [.tmp 56]⟩]
abbrev debuggerlaw36_near.r10 : List Ins := [⟨some 57, none, .op .id [.tmp 1]⟩,
  ⟨some 58, none, .op (.bin .quo) [.tmp 57, .val (.t (.int .i64 8))]⟩,
  ⟨some 59, none, .op (.bin .and) [.tmp 58, .val (.t (.int .i64 1))]⟩,
  ⟨some 60, none, .op (.bin .add) [.val (.t (.int .i64 128)), .tmp 59]⟩,
  ⟨some 61, none, .op (.makeSlice 2 16 (.agg [(.int .i64 0), (.int .i64 0)])) [.tmp 60, .tmp 60]⟩,
  ⟨some 62, none, .op (.fieldA 3) [.tmp 2]⟩,
  ⟨none, none, .op (.store 1) [.tmp 62, .tmp 61]⟩]
abbrev debuggerlaw36_near.r11 : List Ins := [⟨some 63, none, .op (.loadN 11) [.tmp 2]⟩,
  ⟨none, none, .op (.store 11) [.tmp 4, .tmp 63]⟩]
abbrev debuggerlaw36_near.body : Cd := (.seq (.rgn debuggerlaw36_near.r0) (.seq (.rgn debuggerlaw36_near.r1) (.seq (.seq (.rgn debuggerlaw36_near.r2) (.block 0 (.loop debuggerlaw36_near.l0))) (.seq (.rgn debuggerlaw36_near.r5) (.seq (.seq (.rgn debuggerlaw36_near.r6) (.block 2 (.seq (.rgn debuggerlaw36_near.r7) (.cond (.tmp 48) (.rgn debuggerlaw36_near.r8) (.seq (.rgn debuggerlaw36_near.r9) (.cond (.tmp 55) (.rgn debuggerlaw36_near.r10) .skip)))))) (.seq (.rgn debuggerlaw36_near.r11) .ret))))))
def debuggerlaw36_near.af : AF := ⟨2, 64, [.cell 4 11 false], debuggerlaw36_near.body⟩
theorem debuggerlaw36_near.ok : cFunc PP [] Try.f47 = some debuggerlaw36_near.af := by kernel_rfl
theorem debuggerlaw36_near.intro {args : List V} {H : Heap} {Q : V → Heap → Prop} (hlen : args.length ≤ 64) (h : wpC (SCall PP) H.length debuggerlaw36_near.body (exitK H.length [.cell 4 11 false] Q) ⟨initVs 0 args, H⟩) : SCall PP N.debuggerlaw36_near args H Q :=
  SCall.intro Try.func47 (by kernel_rfl) debuggerlaw36_near.ok hlen h
end Go.Proofs.Ytljjabccgbakgaa
