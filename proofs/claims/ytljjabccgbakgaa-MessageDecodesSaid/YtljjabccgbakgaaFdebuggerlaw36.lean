/- The functions of package debuggerlaw36 as the code of the abstract machine. Written by a program of the session. -/
import Derived.Test.YtljjabccgbakgaaFn
namespace Go.Proofs.Ytljjabccgbakgaa
open Go Go.Abs
set_option maxRecDepth 100000
/-! ### debugger/debuggerlaw36.MessageCommands -/
/-! ### debugger/debuggerlaw36.MessageFits -/
/-! ### debugger/debuggerlaw36.MessageDecodes -/
abbrev debuggerlaw36_MessageDecodes.r0 : List Ins := [⟨some 7, none, .op .box [.tmp 1]⟩,
  ⟨some 8, none, .op .box [.tmp 2]⟩,
  ⟨some 12, none, .op .id [.val (.t (.bool false))]⟩]
abbrev debuggerlaw36_MessageDecodes.r1 : List Ins := [⟨some 31, none, .op .id [.tmp 0]⟩,
  ⟨some 32, none, .op .len [.tmp 31]⟩,
  ⟨some 33, none, .op (.bin .gtr) [.tmp 32, .val (.t (.int .i64 1000))]⟩,
  ⟨some 34, none, .op .id [.tmp 33]⟩,
  ⟨some 35, some (34, false), .op (.fieldA 4) [.tmp 7]⟩,
  ⟨some 36, some (34, false), .op .load1 [.tmp 35]⟩,
  ⟨some 37, some (34, false), .op .len [.tmp 36]⟩,
  ⟨some 38, some (34, false), .op (.bin .gtr) [.tmp 37, .val (.t (.int .i64 20))]⟩,
  ⟨some 39, none, .op .pick [.tmp 34, .val (.t (.bool true)), .tmp 38]⟩,
  ⟨some 40, none, .op .id [.tmp 39]⟩,
  ⟨some 41, some (40, false), .op (.loadN 11) [.tmp 8]⟩,
  ⟨some 42, some (40, false), .call N.debuggerlaw36_small [.tmp 41]⟩,
  ⟨some 43, some (40, false), .op (.un .not) [.tmp 42]⟩,
  ⟨some 44, none, .op .pick [.tmp 40, .val (.t (.bool true)), .tmp 43]⟩,
  ⟨some 45, none, .op .id [.tmp 44]⟩,
  ⟨some 46, some (45, false), .op (.fieldA 1) [.tmp 8]⟩,
  ⟨some 47, some (45, false), .op .load1 [.tmp 46]⟩,
  ⟨some 48, some (45, false), .op .len [.tmp 47]⟩,
  ⟨some 49, some (45, false), .op (.bin .gtr) [.tmp 48, .val (.t (.int .i64 20))]⟩,
  ⟨some 50, none, .op .pick [.tmp 45, .val (.t (.bool true)), .tmp 49]⟩,
  ⟨some 51, none, .op .id [.tmp 50]⟩,
  ⟨some 52, some (51, false), .op (.fieldA 3) [.tmp 8]⟩,
  ⟨some 53, some (51, false), .op .load1 [.tmp 52]⟩,
  ⟨some 54, some (51, false), .op .len [.tmp 53]⟩,
  ⟨some 55, some (51, false), .op (.bin .gtr) [.tmp 54, .val (.t (.int .i64 20))]⟩,
  ⟨some 56, none, .op .pick [.tmp 51, .val (.t (.bool true)), .tmp 55]⟩]
abbrev debuggerlaw36_MessageDecodes.r2 : List Ins := [⟨some 57, none, .call N.debuggerlaw36_awake []⟩,
  ⟨some 12, none, .op .id [.tmp 57]⟩]
abbrev debuggerlaw36_MessageDecodes.r3 : List Ins := [⟨some 59, none, .op (.loadN 5) [.tmp 7]⟩,
  ⟨some 60, none, .call N.debuggerref36_EncodeCommand [.tmp 59]⟩,
  ⟨some 58, none, .op .id [.tmp 60]⟩,
  ⟨some 61, none, .op (.extract 0) [.tmp 58]⟩,
  ⟨some 62, none, .op (.extract 1) [.tmp 58]⟩,
  ⟨some 13, none, .op .id [.tmp 61]⟩,
  ⟨some 14, none, .op .id [.tmp 62]⟩]
abbrev debuggerlaw36_MessageDecodes.r4 : List Ins := [⟨some 64, none, .op (.loadN 11) [.tmp 8]⟩,
  ⟨some 65, none, .call N.debuggerlaw36_near [.tmp 64, .val (.t (.int .i64 7))]⟩,
  ⟨some 66, none, .call N.debuggerref36_EncodeReply [.tmp 65]⟩,
  ⟨some 63, none, .op .id [.tmp 66]⟩,
  ⟨some 67, none, .op (.extract 0) [.tmp 63]⟩,
  ⟨some 68, none, .op (.extract 1) [.tmp 63]⟩,
  ⟨some 15, none, .op .id [.tmp 67]⟩,
  ⟨some 16, none, .op .id [.tmp 68]⟩]
abbrev debuggerlaw36_MessageDecodes.r5 : List Ins := [⟨some 69, none, .op .id [.tmp 13]⟩,
  ⟨some 70, none, .op .id [.tmp 15]⟩,
  ⟨some 71, none, .op (.buildSlice 1 (.lst 0 true []) 2 [0, 1]) [.tmp 69, .tmp 70]⟩,
  ⟨some 72, none, .op .len [.tmp 71]⟩,
  ⟨some 73, none, .op .id [.val (.t (.int .i64 0))]⟩]
abbrev debuggerlaw36_MessageDecodes.r6 : List Ins := [⟨some 74, none, .op (.bin .lss) [.tmp 73, .tmp 72]⟩]
abbrev debuggerlaw36_MessageDecodes.r7 : List Ins := [⟨some 75, none, .op (.idxS 1) [.tmp 71, .tmp 73]⟩,
  ⟨some 76, none, .op .load1 [.tmp 75]⟩,
  ⟨some 18, none, .op .id [.tmp 76]⟩]
abbrev debuggerlaw36_MessageDecodes.r8 : List Ins := [⟨some 77, none, .op (.buildSlice 1 (.int .u8 0) 0 []) []⟩,
  ⟨some 78, none, .op .id [.tmp 18]⟩,
  ⟨some 79, none, .op (.append 1 1) [.tmp 77, .tmp 78]⟩,
  ⟨some 19, none, .op .id [.tmp 79]⟩]
abbrev debuggerlaw36_MessageDecodes.r9 : List Ins := [⟨some 20, none, .op .id [.val (.t (.int .i64 0))]⟩]
abbrev debuggerlaw36_MessageDecodes.r10 : List Ins := [⟨some 80, none, .op .id [.tmp 20]⟩,
  ⟨some 81, none, .op .id [.tmp 3]⟩,
  ⟨some 82, none, .op .len [.tmp 81]⟩,
  ⟨some 83, none, .op (.bin .lss) [.tmp 80, .tmp 82]⟩,
  ⟨some 84, none, .op .id [.tmp 83]⟩,
  ⟨some 85, some (84, true), .op .id [.tmp 20]⟩,
  ⟨some 86, some (84, true), .op (.bin .lss) [.tmp 85, .val (.t (.int .i64 3))]⟩,
  ⟨some 87, none, .op .pick [.tmp 84, .tmp 86, .val (.t (.bool false))]⟩,
  ⟨some 88, none, .op .id [.tmp 87]⟩,
  ⟨some 89, some (88, true), .op .id [.tmp 19]⟩,
  ⟨some 90, some (88, true), .op .len [.tmp 89]⟩,
  ⟨some 91, some (88, true), .op (.bin .gtr) [.tmp 90, .val (.t (.int .i64 0))]⟩,
  ⟨some 92, none, .op .pick [.tmp 88, .tmp 91, .val (.t (.bool false))]⟩]
abbrev debuggerlaw36_MessageDecodes.r11 : List Ins := [⟨some 95, none, .op .id [.tmp 19]⟩,
  ⟨some 96, none, .op .id [.tmp 3]⟩,
  ⟨some 97, none, .op .id [.tmp 20]⟩,
  ⟨some 98, none, .op (.idxS 1) [.tmp 96, .tmp 97]⟩,
  ⟨some 99, none, .op .load1 [.tmp 98]⟩,
  ⟨some 100, none, .op .id [.tmp 19]⟩,
  ⟨some 101, none, .op .len [.tmp 100]⟩,
  ⟨some 102, none, .call N.debuggerkit_Mod [.tmp 99, .tmp 101]⟩,
  ⟨some 103, none, .op (.idxS 1) [.tmp 95, .tmp 102]⟩,
  ⟨some 104, none, .op .load1 [.tmp 103]⟩,
  ⟨some 105, none, .op .id [.tmp 4]⟩,
  ⟨some 106, none, .op (.bin .xor) [.tmp 104, .tmp 105]⟩,
  ⟨some 107, none, .op (.idxS 1) [.tmp 95, .tmp 102]⟩,
  ⟨none, none, .op (.store 1) [.tmp 107, .tmp 106]⟩]
abbrev debuggerlaw36_MessageDecodes.r12 : List Ins := [⟨some 93, none, .op .id [.tmp 20]⟩,
  ⟨some 94, none, .op (.bin .add) [.tmp 93, .val (.t (.int .i64 1))]⟩,
  ⟨some 20, none, .op .id [.tmp 94]⟩]
abbrev debuggerlaw36_MessageDecodes.l0 : Cd := (.seq (.seq (.rgn debuggerlaw36_MessageDecodes.r10) (.cond (.tmp 92) .skip (.exit 2))) (.seq (.block 3 (.rgn debuggerlaw36_MessageDecodes.r11)) (.rgn debuggerlaw36_MessageDecodes.r12)))
abbrev debuggerlaw36_MessageDecodes.d0 : Plan := (.val ⟨some 108, none, .op .id [.tmp 0]⟩
  (.val ⟨some 109, none, .op .id [.tmp 19]⟩
  (.val ⟨some 110, none, .op .id [.tmp 19]⟩
  (.val ⟨some 111, none, .op .id [.tmp 5]⟩
  (.val ⟨some 112, none, .op .id [.tmp 19]⟩
  (.val ⟨some 113, none, .op .len [.tmp 112]⟩
  (.val ⟨some 114, none, .op (.bin .add) [.tmp 113, .val (.t (.int .i64 1))]⟩
  (.val ⟨some 118, none, .op .id [.tmp 19]⟩
  (.val ⟨some 120, none, .op .id [.tmp 0]⟩
  (.val ⟨some 124, none, .op .id [.val (.t (.int .i64 0))]⟩
  (.alt (.eff ⟨some 115, none, .call N.debuggerkit_Mod [.tmp 111, .tmp 114]⟩ []
  (.val ⟨some 116, none, .op (.slice 1 false true) [.tmp 110, .tmp 115]⟩
  (.eff ⟨some 117, none, .op (.buildSlice 1 (.int .u8 0) 0 []) []⟩ []
  (.eff ⟨some 119, none, .op (.append 1 1) [.tmp 117, .tmp 118]⟩ []
  (.eff ⟨some 121, none, .op (.append 1 1) [.tmp 119, .tmp 120]⟩ []
  (.eff ⟨some 122, none, .op (.buildSlice 1 (.lst 0 true []) 4 [0, 1, 2, 3]) [.tmp 108, .tmp 109, .tmp 116, .tmp 121]⟩ []
  (.val ⟨some 123, none, .op .len [.tmp 122]⟩
  .fin)))))))
  (.eff ⟨some 117, none, .op (.buildSlice 1 (.int .u8 0) 0 []) []⟩ []
  (.eff ⟨some 115, none, .call N.debuggerkit_Mod [.tmp 111, .tmp 114]⟩ []
  (.val ⟨some 116, none, .op (.slice 1 false true) [.tmp 110, .tmp 115]⟩
  (.eff ⟨some 119, none, .op (.append 1 1) [.tmp 117, .tmp 118]⟩ []
  (.eff ⟨some 121, none, .op (.append 1 1) [.tmp 119, .tmp 120]⟩ []
  (.eff ⟨some 122, none, .op (.buildSlice 1 (.lst 0 true []) 4 [0, 1, 2, 3]) [.tmp 108, .tmp 109, .tmp 116, .tmp 121]⟩ []
  (.val ⟨some 123, none, .op .len [.tmp 122]⟩
  .fin))))))))))))))))))
abbrev debuggerlaw36_MessageDecodes.r13 : List Ins := [⟨some 125, none, .op (.bin .lss) [.tmp 124, .tmp 123]⟩]
abbrev debuggerlaw36_MessageDecodes.r14 : List Ins := [⟨some 126, none, .op (.idxS 1) [.tmp 122, .tmp 124]⟩,
  ⟨some 127, none, .op .load1 [.tmp 126]⟩,
  ⟨some 22, none, .op .id [.tmp 127]⟩]
abbrev debuggerlaw36_MessageDecodes.r15 : List Ins := [⟨some 129, none, .op .id [.tmp 22]⟩,
  ⟨some 130, none, .call N.message_DecodeCommand [.tmp 129]⟩,
  ⟨some 128, none, .op .id [.tmp 130]⟩,
  ⟨some 131, none, .op (.extract 0) [.tmp 128]⟩,
  ⟨some 132, none, .op (.extract 1) [.tmp 128]⟩,
  ⟨some 23, none, .op (.alloc [(.int .i64 0), (.int .i64 0), (.int .i64 0), (.int .i64 0), (.lst 0 true [])]) []⟩,
  ⟨none, none, .op (.store 5) [.tmp 23, .tmp 131]⟩,
  ⟨some 24, none, .op .id [.tmp 132]⟩]
abbrev debuggerlaw36_MessageDecodes.r16 : List Ins := [⟨some 134, none, .op .id [.tmp 22]⟩,
  ⟨some 135, none, .call N.debuggerref36_DecodeCommand [.tmp 134]⟩,
  ⟨some 133, none, .op .id [.tmp 135]⟩,
  ⟨some 136, none, .op (.extract 0) [.tmp 133]⟩,
  ⟨some 137, none, .op (.extract 1) [.tmp 133]⟩,
  ⟨some 25, none, .op (.alloc [(.int .i64 0), (.int .i64 0), (.int .i64 0), (.int .i64 0), (.lst 0 true [])]) []⟩,
  ⟨none, none, .op (.store 5) [.tmp 25, .tmp 136]⟩,
  ⟨some 26, none, .op .id [.tmp 137]⟩]
abbrev debuggerlaw36_MessageDecodes.r17 : List Ins := [⟨some 139, none, .op .id [.tmp 22]⟩,
  ⟨some 140, none, .call N.message_DecodeReply [.tmp 139]⟩,
  ⟨some 138, none, .op .id [.tmp 140]⟩,
  ⟨some 141, none, .op (.extract 0) [.tmp 138]⟩,
  ⟨some 142, none, .op (.extract 1) [.tmp 138]⟩,
  ⟨some 27, none, .op (.alloc [(.int .i64 0), (.lst 0 true []), (.lst 0 true []), (.lst 0 true []), (.int .i64 0), (.int .i64 0), (.int .i64 0), (.int .i64 0), (.int .i64 0), (.int .i64 0), (.int .i64 0)]) []⟩,
  ⟨none, none, .op (.store 11) [.tmp 27, .tmp 141]⟩,
  ⟨some 28, none, .op .id [.tmp 142]⟩]
abbrev debuggerlaw36_MessageDecodes.r18 : List Ins := [⟨some 144, none, .op .id [.tmp 22]⟩,
  ⟨some 145, none, .call N.debuggerref36_DecodeReply [.tmp 144]⟩,
  ⟨some 143, none, .op .id [.tmp 145]⟩,
  ⟨some 146, none, .op (.extract 0) [.tmp 143]⟩,
  ⟨some 147, none, .op (.extract 1) [.tmp 143]⟩,
  ⟨some 29, none, .op (.alloc [(.int .i64 0), (.lst 0 true []), (.lst 0 true []), (.lst 0 true []), (.int .i64 0), (.int .i64 0), (.int .i64 0), (.int .i64 0), (.int .i64 0), (.int .i64 0), (.int .i64 0)]) []⟩,
  ⟨none, none, .op (.store 11) [.tmp 29, .tmp 146]⟩,
  ⟨some 30, none, .op .id [.tmp 147]⟩]
abbrev debuggerlaw36_MessageDecodes.r19 : List Ins := [⟨some 148, none, .op .id [.tmp 24]⟩,
  ⟨some 149, none, .op .id [.tmp 26]⟩,
  ⟨some 150, none, .op (.bin .neq) [.tmp 148, .tmp 149]⟩,
  ⟨some 151, none, .op .id [.tmp 150]⟩,
  ⟨some 152, some (151, false), .op .id [.tmp 28]⟩,
  ⟨some 153, some (151, false), .op .id [.tmp 30]⟩,
  ⟨some 154, some (151, false), .op (.bin .neq) [.tmp 152, .tmp 153]⟩,
  ⟨some 155, none, .op .pick [.tmp 151, .val (.t (.bool true)), .tmp 154]⟩,
  ⟨some 156, none, .op .id [.tmp 155]⟩,
  ⟨some 157, some (156, false), .op (.loadN 5) [.tmp 23]⟩,
  ⟨some 158, some (156, false), .op (.loadN 5) [.tmp 25]⟩,
  ⟨some 159, some (156, false), .call N.debuggerequal_SameCommand [.tmp 157, .tmp 158]⟩,
  ⟨some 160, some (156, false), .op (.un .not) [.tmp 159]⟩,
  ⟨some 161, none, .op .pick [.tmp 156, .val (.t (.bool true)), .tmp 160]⟩,
  ⟨some 162, none, .op .id [.tmp 161]⟩,
  ⟨some 163, some (162, false), .op (.loadN 11) [.tmp 27]⟩,
  ⟨some 164, some (162, false), .op (.loadN 11) [.tmp 29]⟩,
  ⟨some 165, some (162, false), .call N.debuggerequal_SameReply [.tmp 163, .tmp 164]⟩,
  ⟨some 166, some (162, false), .op (.un .not) [.tmp 165]⟩,
  ⟨some 167, none, .op .pick [.tmp 162, .val (.t (.bool true)), .tmp 166]⟩]
abbrev debuggerlaw36_MessageDecodes.r20 : List Ins := [⟨some 12, none, .op .id [.val (.t (.bool false))]⟩]
abbrev debuggerlaw36_MessageDecodes.r21 : List Ins := [⟨some 168, none, .op (.bin .add) [.tmp 124, .val (.t (.int .i64 1))]⟩,
  ⟨some 124, none, .op .id [.tmp 168]⟩]
abbrev debuggerlaw36_MessageDecodes.l1 : Cd := (.seq (.rgn debuggerlaw36_MessageDecodes.r13) (.seq (.cond (.tmp 125) .skip (.exit 4)) (.seq (.block 5 (.seq (.rgn debuggerlaw36_MessageDecodes.r14) (.seq (.rgn debuggerlaw36_MessageDecodes.r15) (.seq (.rgn debuggerlaw36_MessageDecodes.r16) (.seq (.rgn debuggerlaw36_MessageDecodes.r17) (.seq (.rgn debuggerlaw36_MessageDecodes.r18) (.seq (.rgn debuggerlaw36_MessageDecodes.r19) (.cond (.tmp 167) (.seq (.rgn debuggerlaw36_MessageDecodes.r20) .ret) .skip)))))))) (.rgn debuggerlaw36_MessageDecodes.r21))))
abbrev debuggerlaw36_MessageDecodes.r22 : List Ins := [⟨some 169, none, .op (.bin .add) [.tmp 73, .val (.t (.int .i64 1))]⟩,
  ⟨some 73, none, .op .id [.tmp 169]⟩]
abbrev debuggerlaw36_MessageDecodes.l2 : Cd := (.seq (.rgn debuggerlaw36_MessageDecodes.r6) (.seq (.cond (.tmp 74) .skip (.exit 0)) (.seq (.block 1 (.seq (.rgn debuggerlaw36_MessageDecodes.r7) (.seq (.rgn debuggerlaw36_MessageDecodes.r8) (.seq (.seq (.rgn debuggerlaw36_MessageDecodes.r9) (.block 2 (.loop debuggerlaw36_MessageDecodes.l0))) (.seq (.rgnD debuggerlaw36_MessageDecodes.d0) (.block 4 (.loop debuggerlaw36_MessageDecodes.l1))))))) (.rgn debuggerlaw36_MessageDecodes.r22))))
abbrev debuggerlaw36_MessageDecodes.r23 : List Ins := [⟨some 170, none, .call N.debuggerlaw36_awake []⟩,
  ⟨some 12, none, .op .id [.tmp 170]⟩]
abbrev debuggerlaw36_MessageDecodes.body : Cd := (.seq (.rgn debuggerlaw36_MessageDecodes.r0) (.seq (.seq (.rgn debuggerlaw36_MessageDecodes.r1) (.cond (.tmp 56) (.seq (.rgn debuggerlaw36_MessageDecodes.r2) .ret) .skip)) (.seq (.rgn debuggerlaw36_MessageDecodes.r3) (.seq (.rgn debuggerlaw36_MessageDecodes.r4) (.seq (.seq (.rgn debuggerlaw36_MessageDecodes.r5) (.block 0 (.loop debuggerlaw36_MessageDecodes.l2))) (.seq (.rgn debuggerlaw36_MessageDecodes.r23) .ret))))))
def debuggerlaw36_MessageDecodes.af : AF := ⟨6, 171, [.tmp 12], debuggerlaw36_MessageDecodes.body⟩
theorem debuggerlaw36_MessageDecodes.ok : cFunc PP [] Try.f14 = some debuggerlaw36_MessageDecodes.af := by kernel_rfl
theorem debuggerlaw36_MessageDecodes.intro {args : List V} {H : Heap} {Q : V → Heap → Prop} (hlen : args.length ≤ 171) (h : wpC (SCall PP) H.length debuggerlaw36_MessageDecodes.body (exitK H.length [.tmp 12] Q) ⟨initVs 0 args, H⟩) : SCall PP N.debuggerlaw36_MessageDecodes args H Q :=
  SCall.intro Try.func14 (by kernel_rfl) debuggerlaw36_MessageDecodes.ok hlen h
/-! ### debugger/debuggerlaw36.MessageReplies -/
/-! ### debugger/debuggerlaw36.MessageOne -/
/-! ### debugger/debuggerlaw36.awake -/
abbrev debuggerlaw36_awake.r0 : List Ins := [⟨some 0, none, .op .id [.val (.t (.bool false))]⟩]
abbrev debuggerlaw36_awake.r1 : List Ins := [⟨some 6, none, .op (.build [(.int .i64 0), (.int .i64 0), (.int .i64 0), (.int .i64 0), (.lst 0 true [])] [(0, 1)]) [.val (.t (.int .i64 2))]⟩,
  ⟨some 7, none, .call N.message_EncodeCommand [.tmp 6]⟩,
  ⟨some 5, none, .op .id [.tmp 7]⟩,
  ⟨some 8, none, .op (.extract 0) [.tmp 5]⟩,
  ⟨some 9, none, .op (.extract 1) [.tmp 5]⟩,
  ⟨some 1, none, .op .id [.tmp 8]⟩,
  ⟨some 2, none, .op .id [.tmp 9]⟩]
abbrev debuggerlaw36_awake.r2 : List Ins := [⟨some 11, none, .op .id [.tmp 1]⟩,
  ⟨some 12, none, .call N.message_DecodeCommand [.tmp 11]⟩,
  ⟨some 10, none, .op .id [.tmp 12]⟩,
  ⟨some 13, none, .op (.extract 0) [.tmp 10]⟩,
  ⟨some 14, none, .op (.extract 1) [.tmp 10]⟩,
  ⟨some 3, none, .op (.alloc [(.int .i64 0), (.int .i64 0), (.int .i64 0), (.int .i64 0), (.lst 0 true [])]) []⟩,
  ⟨none, none, .op (.store 5) [.tmp 3, .tmp 13]⟩,
  ⟨some 4, none, .op .id [.tmp 14]⟩]
abbrev debuggerlaw36_awake.r3 : List Ins := [⟨some 15, none, .op .id [.tmp 2]⟩,
  ⟨some 16, none, .op (.bin .eql) [.tmp 15, .val (.t (.int .i64 0))]⟩,
  ⟨some 17, none, .op .id [.tmp 16]⟩,
  ⟨some 18, some (17, true), .op .id [.tmp 1]⟩,
  ⟨some 19, some (17, true), .op .len [.tmp 18]⟩,
  ⟨some 20, some (17, true), .op (.bin .eql) [.tmp 19, .val (.t (.int .i64 6))]⟩,
  ⟨some 21, none, .op .pick [.tmp 17, .tmp 20, .val (.t (.bool false))]⟩,
  ⟨some 22, none, .op .id [.tmp 21]⟩,
  ⟨some 23, some (22, true), .op .id [.tmp 4]⟩,
  ⟨some 24, some (22, true), .op (.bin .eql) [.tmp 23, .val (.t (.int .i64 0))]⟩,
  ⟨some 25, none, .op .pick [.tmp 22, .tmp 24, .val (.t (.bool false))]⟩,
  ⟨some 26, none, .op .id [.tmp 25]⟩,
  ⟨some 27, some (26, true), .op (.fieldA 0) [.tmp 3]⟩,
  ⟨some 28, some (26, true), .op .load1 [.tmp 27]⟩,
  ⟨some 29, some (26, true), .op (.bin .eql) [.tmp 28, .val (.t (.int .i64 2))]⟩,
  ⟨some 30, none, .op .pick [.tmp 26, .tmp 29, .val (.t (.bool false))]⟩,
  ⟨some 0, none, .op .id [.tmp 30]⟩]
abbrev debuggerlaw36_awake.body : Cd := (.seq (.rgn debuggerlaw36_awake.r0) (.seq (.rgn debuggerlaw36_awake.r1) (.seq (.rgn debuggerlaw36_awake.r2) (.seq (.rgn debuggerlaw36_awake.r3) .ret))))
def debuggerlaw36_awake.af : AF := ⟨0, 31, [.tmp 0], debuggerlaw36_awake.body⟩
theorem debuggerlaw36_awake.ok : cFunc PP [] Try.f32 = some debuggerlaw36_awake.af := by kernel_rfl
theorem debuggerlaw36_awake.intro {args : List V} {H : Heap} {Q : V → Heap → Prop} (hlen : args.length ≤ 31) (h : wpC (SCall PP) H.length debuggerlaw36_awake.body (exitK H.length [.tmp 0] Q) ⟨initVs 0 args, H⟩) : SCall PP N.debuggerlaw36_awake args H Q :=
  SCall.intro Try.func32 (by kernel_rfl) debuggerlaw36_awake.ok hlen h
/-! ### debugger/debuggerlaw36.small -/
abbrev debuggerlaw36_small.r0 : List Ins := [⟨some 1, none, .op .box [.tmp 0]⟩,
  ⟨some 2, none, .op .id [.val (.t (.bool false))]⟩]
abbrev debuggerlaw36_small.r1 : List Ins := [⟨some 4, none, .op (.fieldA 1) [.tmp 1]⟩,
  ⟨some 5, none, .op .load1 [.tmp 4]⟩,
  ⟨some 6, none, .op .len [.tmp 5]⟩,
  ⟨some 7, none, .op (.bin .gtr) [.tmp 6, .val (.t (.int .i64 300))]⟩,
  ⟨some 8, none, .op .id [.tmp 7]⟩,
  ⟨some 9, some (8, false), .op (.fieldA 2) [.tmp 1]⟩,
  ⟨some 10, some (8, false), .op .load1 [.tmp 9]⟩,
  ⟨some 11, some (8, false), .op .len [.tmp 10]⟩,
  ⟨some 12, some (8, false), .op (.bin .gtr) [.tmp 11, .val (.t (.int .i64 20))]⟩,
  ⟨some 13, none, .op .pick [.tmp 8, .val (.t (.bool true)), .tmp 12]⟩,
  ⟨some 14, none, .op .id [.tmp 13]⟩,
  ⟨some 15, some (14, false), .op (.fieldA 3) [.tmp 1]⟩,
  ⟨some 16, some (14, false), .op .load1 [.tmp 15]⟩,
  ⟨some 17, some (14, false), .op .len [.tmp 16]⟩,
  ⟨some 18, some (14, false), .op (.bin .gtr) [.tmp 17, .val (.t (.int .i64 300))]⟩,
  ⟨some 19, none, .op .pick [.tmp 14, .val (.t (.bool true)), .tmp 18]⟩]
abbrev debuggerlaw36_small.r2 : List Ins := [⟨some 2, none, .op .id [.val (.t (.bool false))]⟩]
abbrev debuggerlaw36_small.r3 : List Ins := [⟨some 3, none, .op .id [.val (.t (.int .i64 0))]⟩]
abbrev debuggerlaw36_small.r4 : List Ins := [⟨some 20, none, .op .id [.tmp 3]⟩,
  ⟨some 21, none, .op (.fieldA 2) [.tmp 1]⟩,
  ⟨some 22, none, .op .load1 [.tmp 21]⟩,
  ⟨some 23, none, .op .len [.tmp 22]⟩,
  ⟨some 24, none, .op (.bin .lss) [.tmp 20, .tmp 23]⟩]
abbrev debuggerlaw36_small.r5 : List Ins := [⟨some 27, none, .op (.fieldA 2) [.tmp 1]⟩,
  ⟨some 28, none, .op .load1 [.tmp 27]⟩,
  ⟨some 29, none, .op .id [.tmp 3]⟩,
  ⟨some 30, none, .op (.idxS 20) [.tmp 28, .tmp 29]⟩,
  ⟨some 31, none, .op (.fieldA 19) [.tmp 30]⟩,
  ⟨some 32, none, .op .load1 [.tmp 31]⟩,
  ⟨some 33, none, .op .len [.tmp 32]⟩,
  ⟨some 34, none, .op (.bin .gtr) [.tmp 33, .val (.t (.int .i64 20))]⟩]
abbrev debuggerlaw36_small.r6 : List Ins := [⟨some 2, none, .op .id [.val (.t (.bool false))]⟩]
abbrev debuggerlaw36_small.r7 : List Ins := [⟨some 25, none, .op .id [.tmp 3]⟩,
  ⟨some 26, none, .op (.bin .add) [.tmp 25, .val (.t (.int .i64 1))]⟩,
  ⟨some 3, none, .op .id [.tmp 26]⟩]
abbrev debuggerlaw36_small.l0 : Cd := (.seq (.seq (.rgn debuggerlaw36_small.r4) (.cond (.tmp 24) .skip (.exit 0))) (.seq (.block 1 (.seq (.rgn debuggerlaw36_small.r5) (.cond (.tmp 34) (.seq (.rgn debuggerlaw36_small.r6) .ret) .skip))) (.rgn debuggerlaw36_small.r7)))
abbrev debuggerlaw36_small.r8 : List Ins := [⟨some 2, none, .op .id [.val (.t (.bool true))]⟩]
abbrev debuggerlaw36_small.body : Cd := (.seq (.rgn debuggerlaw36_small.r0) (.seq (.seq (.rgn debuggerlaw36_small.r1) (.cond (.tmp 19) (.seq (.rgn debuggerlaw36_small.r2) .ret) .skip)) (.seq (.seq (.rgn debuggerlaw36_small.r3) (.block 0 (.loop debuggerlaw36_small.l0))) (.seq (.rgn debuggerlaw36_small.r8) .ret))))
def debuggerlaw36_small.af : AF := ⟨1, 35, [.tmp 2], debuggerlaw36_small.body⟩
theorem debuggerlaw36_small.ok : cFunc PP [] Try.f46 = some debuggerlaw36_small.af := by kernel_rfl
theorem debuggerlaw36_small.intro {args : List V} {H : Heap} {Q : V → Heap → Prop} (hlen : args.length ≤ 35) (h : wpC (SCall PP) H.length debuggerlaw36_small.body (exitK H.length [.tmp 2] Q) ⟨initVs 0 args, H⟩) : SCall PP N.debuggerlaw36_small args H Q :=
  SCall.intro Try.func46 (by kernel_rfl) debuggerlaw36_small.ok hlen h
/-! ### debugger/debuggerlaw36.near -/
abbrev debuggerlaw36_near.r0 : List Ins := [⟨some 2, none, .op .box [.tmp 0]⟩,
  ⟨some 4, none, .op (.alloc [(.int .i64 0), (.lst 0 true []), (.lst 0 true []), (.lst 0 true []), (.int .i64 0), (.int .i64 0), (.int .i64 0), (.int .i64 0), (.int .i64 0), (.int .i64 0), (.int .i64 0)]) []⟩]
abbrev debuggerlaw36_near.r1 : List Ins := [⟨some 6, none, .op (.buildSlice 20 (.agg [(.int .i64 0), (.int .i64 0), (.int .i64 0), (.int .i64 0), (.int .i64 0), (.int .i64 0), (.int .i64 0), (.int .i64 0), (.int .i64 0), (.int .i64 0), (.int .i64 0), (.int .i64 0), (.int .i64 0), (.int .i64 0), (.int .i64 0), (.int .i64 0), (.int .i64 0), (.int .i64 0), (.int .i64 0), (.lst 0 true [])]) 0 []) []⟩,
  ⟨some 7, none, .op (.fieldA 2) [.tmp 2]⟩,
  ⟨some 8, none, .op .load1 [.tmp 7]⟩,
  ⟨some 9, none, .op (.append 20 176) [.tmp 6, .tmp 8]⟩,
  ⟨some 10, none, .op (.fieldA 2) [.tmp 2]⟩,
  ⟨none, none, .op (.store 1) [.tmp 10, .tmp 9]⟩]
abbrev debuggerlaw36_near.r2 : List Ins := [⟨some 5, none, .op .id [.val (.t (.int .i64 0))]⟩]
abbrev debuggerlaw36_near.r3 : List Ins := [⟨some 11, none, .op .id [.tmp 5]⟩,
  ⟨some 12, none, .op (.fieldA 2) [.tmp 2]⟩,
  ⟨some 13, none, .op .load1 [.tmp 12]⟩,
  ⟨some 14, none, .op .len [.tmp 13]⟩,
  ⟨some 15, none, .op (.bin .lss) [.tmp 11, .tmp 14]⟩]
abbrev debuggerlaw36_near.d0 : Plan := (.val ⟨some 18, none, .op (.fieldA 2) [.tmp 2]⟩
  (.val ⟨some 19, none, .op .load1 [.tmp 18]⟩
  (.val ⟨some 20, none, .op .id [.tmp 5]⟩
  (.val ⟨some 21, none, .op (.fieldA 2) [.tmp 2]⟩
  (.val ⟨some 22, none, .op .load1 [.tmp 21]⟩
  (.val ⟨some 23, none, .op .id [.tmp 5]⟩
  (.val ⟨some 24, none, .op (.idxS 20) [.tmp 22, .tmp 23]⟩
  (.val ⟨some 25, none, .op (.fieldA 19) [.tmp 24]⟩
  (.val ⟨some 26, none, .op .load1 [.tmp 25]⟩
  (.val ⟨some 27, none, .op (.fieldA 2) [.tmp 2]⟩
  (.val ⟨some 28, none, .op .load1 [.tmp 27]⟩
  (.val ⟨some 29, none, .op .id [.tmp 5]⟩
  (.val ⟨some 30, none, .op (.idxS 20) [.tmp 28, .tmp 29]⟩
  (.val ⟨some 31, none, .op (.fieldA 19) [.tmp 30]⟩
  (.val ⟨some 32, none, .op .load1 [.tmp 31]⟩
  (.val ⟨some 33, none, .op .len [.tmp 32]⟩
  (.val ⟨some 34, none, .op .min2 [.tmp 33, .val (.t (.int .i64 4))]⟩
  (.val ⟨some 35, none, .op (.slice 1 false true) [.tmp 26, .tmp 34]⟩
  (.val ⟨some 36, none, .op (.idxS 20) [.tmp 19, .tmp 20]⟩
  (.val ⟨some 37, none, .op (.fieldA 19) [.tmp 36]⟩
  (.eff ⟨none, none, .op (.store 1) [.tmp 37, .tmp 35]⟩ []
  .fin)))))))))))))))))))))
abbrev debuggerlaw36_near.r4 : List Ins := [⟨some 16, none, .op .id [.tmp 5]⟩,
  ⟨some 17, none, .op (.bin .add) [.tmp 16, .val (.t (.int .i64 1))]⟩,
  ⟨some 5, none, .op .id [.tmp 17]⟩]
abbrev debuggerlaw36_near.l0 : Cd := (.seq (.seq (.rgn debuggerlaw36_near.r3) (.cond (.tmp 15) .skip (.exit 0))) (.seq (.block 1 (.rgnD debuggerlaw36_near.d0)) (.rgn debuggerlaw36_near.r4)))
abbrev debuggerlaw36_near.r5 : List Ins := [⟨some 38, none, .op (.fieldA 2) [.tmp 2]⟩,
  ⟨some 39, none, .op .load1 [.tmp 38]⟩,
  ⟨some 40, none, .op (.fieldA 2) [.tmp 2]⟩,
  ⟨some 41, none, .op .load1 [.tmp 40]⟩,
  ⟨some 42, none, .op .len [.tmp 41]⟩,
  ⟨some 43, none, .op .min2 [.tmp 42, .val (.t (.int .i64 8))]⟩,
  ⟨some 44, none, .op (.slice 20 false true) [.tmp 39, .tmp 43]⟩,
  ⟨some 45, none, .op (.fieldA 2) [.tmp 2]⟩,
  ⟨none, none, .op (.store 1) [.tmp 45, .tmp 44]⟩]
abbrev debuggerlaw36_near.r6 : List Ins := [⟨some 46, none, .op .id [.tmp 1]⟩,
  ⟨some 47, none, .call N.debuggerkit_Mod [.tmp 46, .val (.t (.int .i64 8))]⟩]
abbrev debuggerlaw36_near.r7 : List Ins := [⟨some 49, none, .op (.bin .eql) [.tmp 47, .val (.t (.int .i64 0))]⟩,
  ⟨some 48, none, .op .id [.tmp 49]⟩]
abbrev debuggerlaw36_near.r8 : List Ins := [⟨some 50, none, .op .id [.tmp 1]⟩,
  ⟨some 51, none, .op (.bin .and) [.tmp 50, .val (.t (.int .i64 1))]⟩,
  ⟨some 52, none, .op (.bin .add) [.val (.t (.int .i64 128)), .tmp 51]⟩,
  ⟨some 53, none, .op (.makeSlice 1 8 (.int .i64 0)) [.tmp 52, .tmp 52]⟩,
  ⟨some 54, none, .op (.fieldA 1) [.tmp 2]⟩,
  ⟨none, none, .op (.store 1) [.tmp 54, .tmp 53]⟩]
abbrev debuggerlaw36_near.r9 : List Ins := [⟨some 56, none, .op (.bin .eql) [.tmp 47, .val (.t (.int .i64 1))]⟩,
  ⟨some 55, none, .op .id [.tmp 56]⟩]
abbrev debuggerlaw36_near.r10 : List Ins := [⟨some 57, none, .op .id [.tmp 1]⟩,
  ⟨some 58, none, .op (.bin .quo) [.tmp 57, .val (.t (.int .i64 8))]⟩,
  ⟨some 59, none, .op (.bin .and) [.tmp 58, .val (.t (.int .i64 1))]⟩,
  ⟨some 60, none, .op (.bin .add) [.val (.t (.int .i64 128)), .tmp 59]⟩,
  ⟨some 61, none, .op (.makeSlice 2 16 (.agg [(.int .i64 0), (.int .i64 0)])) [.tmp 60, .tmp 60]⟩,
  ⟨some 62, none, .op (.fieldA 3) [.tmp 2]⟩,
  ⟨none, none, .op (.store 1) [.tmp 62, .tmp 61]⟩]
abbrev debuggerlaw36_near.r11 : List Ins := [⟨some 63, none, .op (.loadN 11) [.tmp 2]⟩,
  ⟨none, none, .op (.store 11) [.tmp 4, .tmp 63]⟩]
abbrev debuggerlaw36_near.body : Cd := (.seq (.rgn debuggerlaw36_near.r0) (.seq (.rgn debuggerlaw36_near.r1) (.seq (.seq (.rgn debuggerlaw36_near.r2) (.block 0 (.loop debuggerlaw36_near.l0))) (.seq (.rgn debuggerlaw36_near.r5) (.seq (.seq (.rgn debuggerlaw36_near.r6) (.block 2 (.seq (.rgn debuggerlaw36_near.r7) (.cond (.tmp 48) (.rgn debuggerlaw36_near.r8) (.seq (.rgn debuggerlaw36_near.r9) (.cond (.tmp 55) (.rgn debuggerlaw36_near.r10) .skip)))))) (.seq (.rgn debuggerlaw36_near.r11) .ret))))))
def debuggerlaw36_near.af : AF := ⟨2, 64, [.cell 4 11 false], debuggerlaw36_near.body⟩
theorem debuggerlaw36_near.ok : cFunc PP [] Try.f47 = some debuggerlaw36_near.af := by kernel_rfl
theorem debuggerlaw36_near.intro {args : List V} {H : Heap} {Q : V → Heap → Prop} (hlen : args.length ≤ 64) (h : wpC (SCall PP) H.length debuggerlaw36_near.body (exitK H.length [.cell 4 11 false] Q) ⟨initVs 0 args, H⟩) : SCall PP N.debuggerlaw36_near args H Q :=
  SCall.intro Try.func47 (by kernel_rfl) debuggerlaw36_near.ok hlen h
end Go.Proofs.Ytljjabccgbakgaa
