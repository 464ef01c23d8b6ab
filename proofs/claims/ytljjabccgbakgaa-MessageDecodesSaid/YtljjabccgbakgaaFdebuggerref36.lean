/- The functions of package debuggerref36 as the code of the abstract machine. Written by a program of the session. -/
import Derived.Test.YtljjabccgbakgaaFn
namespace Go.Proofs.Ytljjabccgbakgaa
open Go Go.Abs
set_option maxRecDepth 100000
/-! ### debugger/debuggerref36.EncodeCommand -/
abbrev debuggerref36_EncodeCommand.r0 : List Ins := [⟨some 1, none, .op .box [.tmp 0]⟩,
  ⟨some 2, none, .op .id [.val (.t (.lst 0 true []))]⟩,
  ⟨some 3, none, .op .id [.val (.t (.int .i64 0))]⟩]
abbrev debuggerref36_EncodeCommand.r1 : List Ins := [⟨some 4, none, .op (.fieldA 4) [.tmp 1]⟩,
  ⟨some 5, none, .op .load1 [.tmp 4]⟩,
  ⟨some 6, none, .op .len [.tmp 5]⟩,
  ⟨some 7, none, .op (.bin .gtr) [.tmp 6, .val (.t (.int .i64 128))]⟩]
abbrev debuggerref36_EncodeCommand.r2 : List Ins := [⟨some 2, none, .op .id [.val (.t (.lst 0 true []))]⟩,
  ⟨some 3, none, .op .id [.val (.t (.int .i64 5))]⟩]
abbrev debuggerref36_EncodeCommand.d0 : Plan := (.val ⟨some 8, none, .op (.fieldA 0) [.tmp 1]⟩
  (.val ⟨some 9, none, .op .load1 [.tmp 8]⟩
  (.val ⟨some 10, none, .op (.fieldA 1) [.tmp 1]⟩
  (.val ⟨some 11, none, .op .load1 [.tmp 10]⟩
  (.val ⟨some 12, none, .op (.fieldA 2) [.tmp 1]⟩
  (.val ⟨some 13, none, .op .load1 [.tmp 12]⟩
  (.val ⟨some 14, none, .op (.fieldA 3) [.tmp 1]⟩
  (.val ⟨some 15, none, .op .load1 [.tmp 14]⟩
  (.val ⟨some 18, none, .op (.fieldA 4) [.tmp 1]⟩
  (.val ⟨some 19, none, .op .load1 [.tmp 18]⟩
  (.eff ⟨some 16, none, .op (.buildSlice 1 (.int .i64 0) 4 [0, 1, 2, 3]) [.tmp 9, .tmp 11, .tmp 13, .tmp 15]⟩ [⟨some 19, none, .op .load1 [.tmp 18]⟩]
  (.eff ⟨some 17, none, .call N.debuggerref36_list [.val (.t (.lst 0 true [])), .tmp 16]⟩ [⟨some 19, none, .op .load1 [.tmp 18]⟩]
  (.eff ⟨some 20, none, .call N.debuggerref36_list [.tmp 17, .tmp 19]⟩ []
  (.val ⟨some 2, none, .op .id [.tmp 20]⟩
  (.val ⟨some 3, none, .op .id [.val (.t (.int .i64 0))]⟩
  .fin)))))))))))))))
abbrev debuggerref36_EncodeCommand.body : Cd := (.seq (.rgn debuggerref36_EncodeCommand.r0) (.seq (.seq (.rgn debuggerref36_EncodeCommand.r1) (.cond (.tmp 7) (.seq (.rgn debuggerref36_EncodeCommand.r2) .ret) .skip)) (.seq (.rgnD debuggerref36_EncodeCommand.d0) .ret)))
def debuggerref36_EncodeCommand.af : AF := ⟨1, 21, [.tmp 2, .tmp 3], debuggerref36_EncodeCommand.body⟩
theorem debuggerref36_EncodeCommand.ok : cFunc PP [] Try.f35 = some debuggerref36_EncodeCommand.af := by kernel_rfl
theorem debuggerref36_EncodeCommand.intro {args : List V} {H : Heap} {Q : V → Heap → Prop} (hlen : args.length ≤ 21) (h : wpC (SCall PP) H.length debuggerref36_EncodeCommand.body (exitK H.length [.tmp 2, .tmp 3] Q) ⟨initVs 0 args, H⟩) : SCall PP N.debuggerref36_EncodeCommand args H Q :=
  SCall.intro Try.func35 (by kernel_rfl) debuggerref36_EncodeCommand.ok hlen h
/-! ### debugger/debuggerref36.EncodeReply -/
abbrev debuggerref36_EncodeReply.r0 : List Ins := [⟨some 1, none, .op .box [.tmp 0]⟩,
  ⟨some 2, none, .op .id [.val (.t (.lst 0 true []))]⟩,
  ⟨some 3, none, .op .id [.val (.t (.int .i64 0))]⟩]
abbrev debuggerref36_EncodeReply.r1 : List Ins := [⟨some 7, none, .op (.fieldA 1) [.tmp 1]⟩,
  ⟨some 8, none, .op .load1 [.tmp 7]⟩,
  ⟨some 9, none, .op .len [.tmp 8]⟩,
  ⟨some 10, none, .op (.bin .gtr) [.tmp 9, .val (.t (.int .i64 128))]⟩,
  ⟨some 11, none, .op .id [.tmp 10]⟩,
  ⟨some 12, some (11, false), .op (.fieldA 3) [.tmp 1]⟩,
  ⟨some 13, some (11, false), .op .load1 [.tmp 12]⟩,
  ⟨some 14, some (11, false), .op .len [.tmp 13]⟩,
  ⟨some 15, some (11, false), .op (.bin .gtr) [.tmp 14, .val (.t (.int .i64 128))]⟩,
  ⟨some 16, none, .op .pick [.tmp 11, .val (.t (.bool true)), .tmp 15]⟩,
  ⟨some 17, none, .op .id [.tmp 16]⟩,
  ⟨some 18, some (17, false), .op (.fieldA 2) [.tmp 1]⟩,
  ⟨some 19, some (17, false), .op .load1 [.tmp 18]⟩,
  ⟨some 20, some (17, false), .op .len [.tmp 19]⟩,
  ⟨some 21, some (17, false), .op (.bin .gtr) [.tmp 20, .val (.t (.int .i64 8))]⟩,
  ⟨some 22, none, .op .pick [.tmp 17, .val (.t (.bool true)), .tmp 21]⟩]
abbrev debuggerref36_EncodeReply.r2 : List Ins := [⟨some 2, none, .op .id [.val (.t (.lst 0 true []))]⟩,
  ⟨some 3, none, .op .id [.val (.t (.int .i64 5))]⟩]
abbrev debuggerref36_EncodeReply.r3 : List Ins := [⟨some 23, none, .op (.fieldA 0) [.tmp 1]⟩,
  ⟨some 24, none, .op .load1 [.tmp 23]⟩,
  ⟨some 25, none, .call N.debuggerref01_AppendInt [.val (.t (.lst 0 true [])), .tmp 24]⟩,
  ⟨some 4, none, .op .id [.tmp 25]⟩]
abbrev debuggerref36_EncodeReply.r4 : List Ins := [⟨some 26, none, .op .id [.tmp 4]⟩,
  ⟨some 27, none, .op (.fieldA 1) [.tmp 1]⟩,
  ⟨some 28, none, .op .load1 [.tmp 27]⟩,
  ⟨some 29, none, .call N.debuggerref36_list [.tmp 26, .tmp 28]⟩,
  ⟨some 4, none, .op .id [.tmp 29]⟩]
abbrev debuggerref36_EncodeReply.r5 : List Ins := [⟨some 30, none, .op .id [.tmp 4]⟩,
  ⟨some 31, none, .op (.fieldA 2) [.tmp 1]⟩,
  ⟨some 32, none, .op .load1 [.tmp 31]⟩,
  ⟨some 33, none, .op .len [.tmp 32]⟩,
  ⟨some 34, none, .call N.debuggerref01_AppendUint [.tmp 30, .tmp 33]⟩,
  ⟨some 4, none, .op .id [.tmp 34]⟩]
abbrev debuggerref36_EncodeReply.r6 : List Ins := [⟨some 5, none, .op .id [.val (.t (.int .i64 0))]⟩]
abbrev debuggerref36_EncodeReply.r7 : List Ins := [⟨some 35, none, .op .id [.tmp 5]⟩,
  ⟨some 36, none, .op (.fieldA 2) [.tmp 1]⟩,
  ⟨some 37, none, .op .load1 [.tmp 36]⟩,
  ⟨some 38, none, .op .len [.tmp 37]⟩,
  ⟨some 39, none, .op (.bin .lss) [.tmp 35, .tmp 38]⟩]
abbrev debuggerref36_EncodeReply.r8 : List Ins := [⟨some 42, none, .op (.fieldA 2) [.tmp 1]⟩,
  ⟨some 43, none, .op .load1 [.tmp 42]⟩,
  ⟨some 44, none, .op .id [.tmp 5]⟩,
  ⟨some 45, none, .op (.idxS 20) [.tmp 43, .tmp 44]⟩,
  ⟨some 46, none, .op (.fieldA 19) [.tmp 45]⟩,
  ⟨some 47, none, .op .load1 [.tmp 46]⟩,
  ⟨some 48, none, .op .len [.tmp 47]⟩,
  ⟨some 49, none, .op (.bin .gtr) [.tmp 48, .val (.t (.int .i64 4))]⟩]
abbrev debuggerref36_EncodeReply.r9 : List Ins := [⟨some 2, none, .op .id [.val (.t (.lst 0 true []))]⟩,
  ⟨some 3, none, .op .id [.val (.t (.int .i64 5))]⟩]
abbrev debuggerref36_EncodeReply.r10 : List Ins := [⟨some 50, none, .op .id [.tmp 4]⟩,
  ⟨some 51, none, .op (.fieldA 2) [.tmp 1]⟩,
  ⟨some 52, none, .op .load1 [.tmp 51]⟩,
  ⟨some 53, none, .op .id [.tmp 5]⟩,
  ⟨some 54, none, .op (.idxS 20) [.tmp 52, .tmp 53]⟩,
  ⟨some 55, none, .op (.loadN 20) [.tmp 54]⟩,
  ⟨some 56, none, .call N.debuggerref36_thread [.tmp 50, .tmp 55]⟩,
  ⟨some 4, none, .op .id [.tmp 56]⟩]
abbrev debuggerref36_EncodeReply.r11 : List Ins := [⟨some 40, none, .op .id [.tmp 5]⟩,
  ⟨some 41, none, .op (.bin .add) [.tmp 40, .val (.t (.int .i64 1))]⟩,
  ⟨some 5, none, .op .id [.tmp 41]⟩]
abbrev debuggerref36_EncodeReply.l0 : Cd := (.seq (.seq (.rgn debuggerref36_EncodeReply.r7) (.cond (.tmp 39) .skip (.exit 0))) (.seq (.block 1 (.seq (.seq (.rgn debuggerref36_EncodeReply.r8) (.cond (.tmp 49) (.seq (.rgn debuggerref36_EncodeReply.r9) .ret) .skip)) (.rgn debuggerref36_EncodeReply.r10))) (.rgn debuggerref36_EncodeReply.r11)))
abbrev debuggerref36_EncodeReply.r12 : List Ins := [⟨some 57, none, .op .id [.tmp 4]⟩,
  ⟨some 58, none, .op (.fieldA 3) [.tmp 1]⟩,
  ⟨some 59, none, .op .load1 [.tmp 58]⟩,
  ⟨some 60, none, .call N.debuggerref36_output [.tmp 57, .tmp 59]⟩,
  ⟨some 4, none, .op .id [.tmp 60]⟩]
abbrev debuggerref36_EncodeReply.r13 : List Ins := [⟨some 61, none, .op (.fieldA 4) [.tmp 1]⟩,
  ⟨some 62, none, .op (.loadN 7) [.tmp 61]⟩,
  ⟨some 6, none, .op (.alloc [(.int .i64 0), (.int .i64 0), (.int .i64 0), (.int .i64 0), (.int .i64 0), (.int .i64 0), (.int .i64 0)]) []⟩,
  ⟨none, none, .op (.store 7) [.tmp 6, .tmp 62]⟩]
abbrev debuggerref36_EncodeReply.r14 : List Ins := [⟨some 63, none, .op .id [.tmp 4]⟩,
  ⟨some 64, none, .op (.fieldA 0) [.tmp 6]⟩,
  ⟨some 65, none, .op .load1 [.tmp 64]⟩,
  ⟨some 66, none, .op (.fieldA 1) [.tmp 6]⟩,
  ⟨some 67, none, .op .load1 [.tmp 66]⟩,
  ⟨some 68, none, .op (.fieldA 2) [.tmp 6]⟩,
  ⟨some 69, none, .op .load1 [.tmp 68]⟩,
  ⟨some 70, none, .op (.fieldA 3) [.tmp 6]⟩,
  ⟨some 71, none, .op .load1 [.tmp 70]⟩,
  ⟨some 72, none, .op (.fieldA 4) [.tmp 6]⟩,
  ⟨some 73, none, .op .load1 [.tmp 72]⟩,
  ⟨some 74, none, .op (.fieldA 5) [.tmp 6]⟩,
  ⟨some 75, none, .op .load1 [.tmp 74]⟩,
  ⟨some 76, none, .op (.fieldA 6) [.tmp 6]⟩,
  ⟨some 77, none, .op .load1 [.tmp 76]⟩,
  ⟨some 78, none, .op (.buildSlice 1 (.int .i64 0) 7 [0, 1, 2, 3, 4, 5, 6]) [.tmp 65, .tmp 67, .tmp 69, .tmp 71, .tmp 73, .tmp 75, .tmp 77]⟩,
  ⟨some 79, none, .call N.debuggerref36_list [.tmp 63, .tmp 78]⟩,
  ⟨some 2, none, .op .id [.tmp 79]⟩,
  ⟨some 3, none, .op .id [.val (.t (.int .i64 0))]⟩]
abbrev debuggerref36_EncodeReply.body : Cd := (.seq (.rgn debuggerref36_EncodeReply.r0) (.seq (.seq (.rgn debuggerref36_EncodeReply.r1) (.cond (.tmp 22) (.seq (.rgn debuggerref36_EncodeReply.r2) .ret) .skip)) (.seq (.rgn debuggerref36_EncodeReply.r3) (.seq (.rgn debuggerref36_EncodeReply.r4) (.seq (.rgn debuggerref36_EncodeReply.r5) (.seq (.seq (.rgn debuggerref36_EncodeReply.r6) (.block 0 (.loop debuggerref36_EncodeReply.l0))) (.seq (.rgn debuggerref36_EncodeReply.r12) (.seq (.rgn debuggerref36_EncodeReply.r13) (.seq (.rgn debuggerref36_EncodeReply.r14) .ret)))))))))
def debuggerref36_EncodeReply.af : AF := ⟨1, 80, [.tmp 2, .tmp 3], debuggerref36_EncodeReply.body⟩
theorem debuggerref36_EncodeReply.ok : cFunc PP [] Try.f49 = some debuggerref36_EncodeReply.af := by kernel_rfl
theorem debuggerref36_EncodeReply.intro {args : List V} {H : Heap} {Q : V → Heap → Prop} (hlen : args.length ≤ 80) (h : wpC (SCall PP) H.length debuggerref36_EncodeReply.body (exitK H.length [.tmp 2, .tmp 3] Q) ⟨initVs 0 args, H⟩) : SCall PP N.debuggerref36_EncodeReply args H Q :=
  SCall.intro Try.func49 (by kernel_rfl) debuggerref36_EncodeReply.ok hlen h
/-! ### debugger/debuggerref36.DecodeCommand -/
abbrev debuggerref36_DecodeCommand.r0 : List Ins := [⟨some 2, none, .op (.alloc [(.int .i64 0), (.int .i64 0), (.int .i64 0), (.int .i64 0), (.lst 0 true [])]) []⟩,
  ⟨some 3, none, .op .id [.val (.t (.int .i64 0))]⟩]
abbrev debuggerref36_DecodeCommand.r1 : List Ins := [⟨some 7, none, .op .id [.tmp 0]⟩,
  ⟨some 8, none, .op (.build [(.lst 0 true []), (.int .i64 0), (.bool false)] [(0, 1)]) [.tmp 7]⟩,
  ⟨some 9, none, .op .box [.tmp 8]⟩,
  ⟨some 4, none, .op .id [.tmp 9]⟩]
abbrev debuggerref36_DecodeCommand.r2 : List Ins := [⟨some 10, none, .op .id [.tmp 4]⟩,
  ⟨some 11, none, .call N.debuggerref36_reader_list [.tmp 10, .val (.t (.int .i64 4))]⟩,
  ⟨some 5, none, .op .id [.tmp 11]⟩]
abbrev debuggerref36_DecodeCommand.r3 : List Ins := [⟨some 12, none, .op .id [.tmp 5]⟩,
  ⟨some 13, none, .op .len [.tmp 12]⟩,
  ⟨some 14, none, .op (.bin .neq) [.tmp 13, .val (.t (.int .i64 4))]⟩]
abbrev debuggerref36_DecodeCommand.r4 : List Ins := [⟨some 15, none, .op (.build [(.int .i64 0), (.int .i64 0), (.int .i64 0), (.int .i64 0), (.lst 0 true [])] []) []⟩,
  ⟨none, none, .op (.store 5) [.tmp 2, .tmp 15]⟩,
  ⟨some 3, none, .op .id [.val (.t (.int .i64 4))]⟩]
abbrev debuggerref36_DecodeCommand.d0 : Plan := (.val ⟨some 16, none, .op .id [.tmp 5]⟩
  (.val ⟨some 17, none, .op (.idxS 1) [.tmp 16, .val (.t (.int .i64 0))]⟩
  (.val ⟨some 18, none, .op .load1 [.tmp 17]⟩
  (.val ⟨some 19, none, .op .id [.tmp 5]⟩
  (.val ⟨some 20, none, .op (.idxS 1) [.tmp 19, .val (.t (.int .i64 1))]⟩
  (.val ⟨some 21, none, .op .load1 [.tmp 20]⟩
  (.val ⟨some 22, none, .op .id [.tmp 5]⟩
  (.val ⟨some 23, none, .op (.idxS 1) [.tmp 22, .val (.t (.int .i64 2))]⟩
  (.val ⟨some 24, none, .op .load1 [.tmp 23]⟩
  (.val ⟨some 25, none, .op .id [.tmp 5]⟩
  (.val ⟨some 26, none, .op (.idxS 1) [.tmp 25, .val (.t (.int .i64 3))]⟩
  (.val ⟨some 27, none, .op .load1 [.tmp 26]⟩
  (.val ⟨some 28, none, .op .id [.tmp 4]⟩
  (.alt (.eff ⟨some 29, none, .call N.debuggerref36_reader_list [.tmp 28, .val (.t (.int .i64 128))]⟩ [⟨some 17, none, .op (.idxS 1) [.tmp 16, .val (.t (.int .i64 0))]⟩, ⟨some 18, none, .op .load1 [.tmp 17]⟩, ⟨some 20, none, .op (.idxS 1) [.tmp 19, .val (.t (.int .i64 1))]⟩, ⟨some 21, none, .op .load1 [.tmp 20]⟩, ⟨some 23, none, .op (.idxS 1) [.tmp 22, .val (.t (.int .i64 2))]⟩, ⟨some 24, none, .op .load1 [.tmp 23]⟩, ⟨some 26, none, .op (.idxS 1) [.tmp 25, .val (.t (.int .i64 3))]⟩, ⟨some 27, none, .op .load1 [.tmp 26]⟩]
  (.val ⟨some 30, none, .op (.build [(.int .i64 0), (.int .i64 0), (.int .i64 0), (.int .i64 0), (.lst 0 true [])] [(0, 1), (1, 1), (2, 1), (3, 1), (4, 1)]) [.tmp 18, .tmp 21, .tmp 24, .tmp 27, .tmp 29]⟩
  (.eff ⟨some 6, none, .op (.alloc [(.int .i64 0), (.int .i64 0), (.int .i64 0), (.int .i64 0), (.lst 0 true [])]) []⟩ [⟨some 17, none, .op (.idxS 1) [.tmp 16, .val (.t (.int .i64 0))]⟩, ⟨some 18, none, .op .load1 [.tmp 17]⟩, ⟨some 20, none, .op (.idxS 1) [.tmp 19, .val (.t (.int .i64 1))]⟩, ⟨some 21, none, .op .load1 [.tmp 20]⟩, ⟨some 23, none, .op (.idxS 1) [.tmp 22, .val (.t (.int .i64 2))]⟩, ⟨some 24, none, .op .load1 [.tmp 23]⟩, ⟨some 26, none, .op (.idxS 1) [.tmp 25, .val (.t (.int .i64 3))]⟩, ⟨some 27, none, .op .load1 [.tmp 26]⟩]
  (.eff ⟨none, none, .op (.store 5) [.tmp 6, .tmp 30]⟩ []
  .fin))))
  (.eff ⟨some 6, none, .op (.alloc [(.int .i64 0), (.int .i64 0), (.int .i64 0), (.int .i64 0), (.lst 0 true [])]) []⟩ [⟨some 17, none, .op (.idxS 1) [.tmp 16, .val (.t (.int .i64 0))]⟩, ⟨some 18, none, .op .load1 [.tmp 17]⟩, ⟨some 20, none, .op (.idxS 1) [.tmp 19, .val (.t (.int .i64 1))]⟩, ⟨some 21, none, .op .load1 [.tmp 20]⟩, ⟨some 23, none, .op (.idxS 1) [.tmp 22, .val (.t (.int .i64 2))]⟩, ⟨some 24, none, .op .load1 [.tmp 23]⟩, ⟨some 26, none, .op (.idxS 1) [.tmp 25, .val (.t (.int .i64 3))]⟩, ⟨some 27, none, .op .load1 [.tmp 26]⟩]
  (.eff ⟨some 29, none, .call N.debuggerref36_reader_list [.tmp 28, .val (.t (.int .i64 128))]⟩ [⟨some 17, none, .op (.idxS 1) [.tmp 16, .val (.t (.int .i64 0))]⟩, ⟨some 18, none, .op .load1 [.tmp 17]⟩, ⟨some 20, none, .op (.idxS 1) [.tmp 19, .val (.t (.int .i64 1))]⟩, ⟨some 21, none, .op .load1 [.tmp 20]⟩, ⟨some 23, none, .op (.idxS 1) [.tmp 22, .val (.t (.int .i64 2))]⟩, ⟨some 24, none, .op .load1 [.tmp 23]⟩, ⟨some 26, none, .op (.idxS 1) [.tmp 25, .val (.t (.int .i64 3))]⟩, ⟨some 27, none, .op .load1 [.tmp 26]⟩]
  (.val ⟨some 30, none, .op (.build [(.int .i64 0), (.int .i64 0), (.int .i64 0), (.int .i64 0), (.lst 0 true [])] [(0, 1), (1, 1), (2, 1), (3, 1), (4, 1)]) [.tmp 18, .tmp 21, .tmp 24, .tmp 27, .tmp 29]⟩
  (.eff ⟨none, none, .op (.store 5) [.tmp 6, .tmp 30]⟩ []
  .fin))))))))))))))))))
abbrev debuggerref36_DecodeCommand.r5 : List Ins := [⟨some 31, none, .op .id [.tmp 4]⟩,
  ⟨some 32, none, .op .nilck [.tmp 31]⟩,
  ⟨some 33, none, .op (.fieldA 2) [.tmp 32]⟩,
  ⟨some 34, none, .op .load1 [.tmp 33]⟩,
  ⟨some 35, none, .op .id [.tmp 34]⟩,
  ⟨some 36, some (35, false), .op .id [.tmp 4]⟩,
  ⟨some 37, some (35, false), .op .nilck [.tmp 36]⟩,
  ⟨some 38, some (35, false), .op (.fieldA 1) [.tmp 37]⟩,
  ⟨some 39, some (35, false), .op .load1 [.tmp 38]⟩,
  ⟨some 40, some (35, false), .op .id [.tmp 0]⟩,
  ⟨some 41, some (35, false), .op .len [.tmp 40]⟩,
  ⟨some 42, some (35, false), .op (.bin .neq) [.tmp 39, .tmp 41]⟩,
  ⟨some 43, none, .op .pick [.tmp 35, .val (.t (.bool true)), .tmp 42]⟩]
abbrev debuggerref36_DecodeCommand.r6 : List Ins := [⟨some 44, none, .op (.build [(.int .i64 0), (.int .i64 0), (.int .i64 0), (.int .i64 0), (.lst 0 true [])] []) []⟩,
  ⟨none, none, .op (.store 5) [.tmp 2, .tmp 44]⟩,
  ⟨some 3, none, .op .id [.val (.t (.int .i64 4))]⟩]
abbrev debuggerref36_DecodeCommand.r7 : List Ins := [⟨some 45, none, .op (.loadN 5) [.tmp 6]⟩,
  ⟨none, none, .op (.store 5) [.tmp 2, .tmp 45]⟩,
  ⟨some 3, none, .op .id [.val (.t (.int .i64 0))]⟩]
abbrev debuggerref36_DecodeCommand.body : Cd := (.seq (.rgn debuggerref36_DecodeCommand.r0) (.seq (.rgn debuggerref36_DecodeCommand.r1) (.seq (.rgn debuggerref36_DecodeCommand.r2) (.seq (.seq (.rgn debuggerref36_DecodeCommand.r3) (.cond (.tmp 14) (.seq (.rgn debuggerref36_DecodeCommand.r4) .ret) .skip)) (.seq (.rgnD debuggerref36_DecodeCommand.d0) (.seq (.seq (.rgn debuggerref36_DecodeCommand.r5) (.cond (.tmp 43) (.seq (.rgn debuggerref36_DecodeCommand.r6) .ret) .skip)) (.seq (.rgn debuggerref36_DecodeCommand.r7) .ret)))))))
def debuggerref36_DecodeCommand.af : AF := ⟨1, 46, [.cell 2 5 false, .tmp 3], debuggerref36_DecodeCommand.body⟩
theorem debuggerref36_DecodeCommand.ok : cFunc PP [] Try.f50 = some debuggerref36_DecodeCommand.af := by kernel_rfl
theorem debuggerref36_DecodeCommand.intro {args : List V} {H : Heap} {Q : V → Heap → Prop} (hlen : args.length ≤ 46) (h : wpC (SCall PP) H.length debuggerref36_DecodeCommand.body (exitK H.length [.cell 2 5 false, .tmp 3] Q) ⟨initVs 0 args, H⟩) : SCall PP N.debuggerref36_DecodeCommand args H Q :=
  SCall.intro Try.func50 (by kernel_rfl) debuggerref36_DecodeCommand.ok hlen h
/-! ### debugger/debuggerref36.DecodeReply -/
abbrev debuggerref36_DecodeReply.r0 : List Ins := [⟨some 2, none, .op (.alloc [(.int .i64 0), (.lst 0 true []), (.lst 0 true []), (.lst 0 true []), (.int .i64 0), (.int .i64 0), (.int .i64 0), (.int .i64 0), (.int .i64 0), (.int .i64 0), (.int .i64 0)]) []⟩,
  ⟨some 3, none, .op .id [.val (.t (.int .i64 0))]⟩]
abbrev debuggerref36_DecodeReply.r1 : List Ins := [⟨some 9, none, .op .id [.tmp 0]⟩,
  ⟨some 10, none, .op (.build [(.lst 0 true []), (.int .i64 0), (.bool false)] [(0, 1)]) [.tmp 9]⟩,
  ⟨some 11, none, .op .box [.tmp 10]⟩,
  ⟨some 4, none, .op .id [.tmp 11]⟩]
abbrev debuggerref36_DecodeReply.r2 : List Ins := [⟨some 12, none, .op .id [.tmp 4]⟩,
  ⟨some 13, none, .call N.debuggerref36_reader_int [.tmp 12]⟩,
  ⟨some 14, none, .op .id [.tmp 4]⟩,
  ⟨some 15, none, .call N.debuggerref36_reader_list [.tmp 14, .val (.t (.int .i64 128))]⟩,
  ⟨some 16, none, .op (.build [(.int .i64 0), (.lst 0 true []), (.lst 0 true []), (.lst 0 true []), (.int .i64 0), (.int .i64 0), (.int .i64 0), (.int .i64 0), (.int .i64 0), (.int .i64 0), (.int .i64 0)] [(0, 1), (1, 1)]) [.tmp 13, .tmp 15]⟩,
  ⟨some 5, none, .op (.alloc [(.int .i64 0), (.lst 0 true []), (.lst 0 true []), (.lst 0 true []), (.int .i64 0), (.int .i64 0), (.int .i64 0), (.int .i64 0), (.int .i64 0), (.int .i64 0), (.int .i64 0)]) []⟩,
  ⟨none, none, .op (.store 11) [.tmp 5, .tmp 16]⟩]
abbrev debuggerref36_DecodeReply.r3 : List Ins := [⟨some 17, none, .op .id [.tmp 4]⟩,
  ⟨some 18, none, .call N.debuggerref36_reader_uint [.tmp 17]⟩,
  ⟨some 6, none, .op .id [.tmp 18]⟩]
abbrev debuggerref36_DecodeReply.r4 : List Ins := [⟨some 19, none, .op .id [.tmp 6]⟩,
  ⟨some 20, none, .op (.bin .gtr) [.tmp 19, .val (.t (.int .i64 8))]⟩]
abbrev debuggerref36_DecodeReply.r5 : List Ins := [⟨some 21, none, .op (.build [(.int .i64 0), (.lst 0 true []), (.lst 0 true []), (.lst 0 true []), (.int .i64 0), (.int .i64 0), (.int .i64 0), (.int .i64 0), (.int .i64 0), (.int .i64 0), (.int .i64 0)] []) []⟩,
  ⟨none, none, .op (.store 11) [.tmp 2, .tmp 21]⟩,
  ⟨some 3, none, .op .id [.val (.t (.int .i64 4))]⟩]
abbrev debuggerref36_DecodeReply.r6 : List Ins := [⟨some 7, none, .op .id [.val (.t (.int .i64 0))]⟩]
abbrev debuggerref36_DecodeReply.r7 : List Ins := [⟨some 22, none, .op .id [.tmp 7]⟩,
  ⟨some 23, none, .op .id [.tmp 6]⟩,
  ⟨some 24, none, .op (.bin .lss) [.tmp 22, .tmp 23]⟩,
  ⟨some 25, none, .op .id [.tmp 24]⟩,
  ⟨some 26, some (25, true), .op .id [.tmp 4]⟩,
  ⟨some 27, some (25, true), .op .nilck [.tmp 26]⟩,
  ⟨some 28, some (25, true), .op (.fieldA 2) [.tmp 27]⟩,
  ⟨some 29, some (25, true), .op .load1 [.tmp 28]⟩,
  ⟨some 30, some (25, true), .op (.un .not) [.tmp 29]⟩,
  ⟨some 31, none, .op .pick [.tmp 25, .tmp 30, .val (.t (.bool false))]⟩]
abbrev debuggerref36_DecodeReply.d0 : Plan := (.val ⟨some 34, none, .op (.fieldA 2) [.tmp 5]⟩
  (.val ⟨some 35, none, .op .load1 [.tmp 34]⟩
  (.val ⟨some 36, none, .op .id [.tmp 4]⟩
  (.eff ⟨some 37, none, .call N.debuggerref36_reader_thread [.tmp 36]⟩ [⟨some 35, none, .op .load1 [.tmp 34]⟩]
  (.eff ⟨some 38, none, .op (.buildSlice 20 (.agg [(.int .i64 0), (.int .i64 0), (.int .i64 0), (.int .i64 0), (.int .i64 0), (.int .i64 0), (.int .i64 0), (.int .i64 0), (.int .i64 0), (.int .i64 0), (.int .i64 0), (.int .i64 0), (.int .i64 0), (.int .i64 0), (.int .i64 0), (.int .i64 0), (.int .i64 0), (.int .i64 0), (.int .i64 0), (.lst 0 true [])]) 1 [0]) [.tmp 37]⟩ [⟨some 35, none, .op .load1 [.tmp 34]⟩]
  (.eff ⟨some 39, none, .op (.append 20 176) [.tmp 35, .tmp 38]⟩ []
  (.val ⟨some 40, none, .op (.fieldA 2) [.tmp 5]⟩
  (.eff ⟨none, none, .op (.store 1) [.tmp 40, .tmp 39]⟩ []
  .fin))))))))
abbrev debuggerref36_DecodeReply.r8 : List Ins := [⟨some 32, none, .op .id [.tmp 7]⟩,
  ⟨some 33, none, .op (.bin .add) [.tmp 32, .val (.t (.int .i64 1))]⟩,
  ⟨some 7, none, .op .id [.tmp 33]⟩]
abbrev debuggerref36_DecodeReply.l0 : Cd := (.seq (.seq (.rgn debuggerref36_DecodeReply.r7) (.cond (.tmp 31) .skip (.exit 0))) (.seq (.block 1 (.rgnD debuggerref36_DecodeReply.d0)) (.rgn debuggerref36_DecodeReply.r8)))
abbrev debuggerref36_DecodeReply.r9 : List Ins := [⟨some 41, none, .op .id [.tmp 4]⟩,
  ⟨some 42, none, .call N.debuggerref36_reader_output [.tmp 41, .val (.t (.int .i64 128))]⟩,
  ⟨some 43, none, .op (.fieldA 3) [.tmp 5]⟩,
  ⟨none, none, .op (.store 1) [.tmp 43, .tmp 42]⟩]
abbrev debuggerref36_DecodeReply.r10 : List Ins := [⟨some 44, none, .op .id [.tmp 4]⟩,
  ⟨some 45, none, .call N.debuggerref36_reader_list [.tmp 44, .val (.t (.int .i64 7))]⟩,
  ⟨some 8, none, .op .id [.tmp 45]⟩]
abbrev debuggerref36_DecodeReply.r11 : List Ins := [⟨some 46, none, .op .id [.tmp 4]⟩,
  ⟨some 47, none, .op .nilck [.tmp 46]⟩,
  ⟨some 48, none, .op (.fieldA 2) [.tmp 47]⟩,
  ⟨some 49, none, .op .load1 [.tmp 48]⟩,
  ⟨some 50, none, .op .id [.tmp 49]⟩,
  ⟨some 51, some (50, false), .op .id [.tmp 8]⟩,
  ⟨some 52, some (50, false), .op .len [.tmp 51]⟩,
  ⟨some 53, some (50, false), .op (.bin .neq) [.tmp 52, .val (.t (.int .i64 7))]⟩,
  ⟨some 54, none, .op .pick [.tmp 50, .val (.t (.bool true)), .tmp 53]⟩,
  ⟨some 55, none, .op .id [.tmp 54]⟩,
  ⟨some 56, some (55, false), .op .id [.tmp 4]⟩,
  ⟨some 57, some (55, false), .op .nilck [.tmp 56]⟩,
  ⟨some 58, some (55, false), .op (.fieldA 1) [.tmp 57]⟩,
  ⟨some 59, some (55, false), .op .load1 [.tmp 58]⟩,
  ⟨some 60, some (55, false), .op .id [.tmp 0]⟩,
  ⟨some 61, some (55, false), .op .len [.tmp 60]⟩,
  ⟨some 62, some (55, false), .op (.bin .neq) [.tmp 59, .tmp 61]⟩,
  ⟨some 63, none, .op .pick [.tmp 55, .val (.t (.bool true)), .tmp 62]⟩]
abbrev debuggerref36_DecodeReply.r12 : List Ins := [⟨some 64, none, .op (.build [(.int .i64 0), (.lst 0 true []), (.lst 0 true []), (.lst 0 true []), (.int .i64 0), (.int .i64 0), (.int .i64 0), (.int .i64 0), (.int .i64 0), (.int .i64 0), (.int .i64 0)] []) []⟩,
  ⟨none, none, .op (.store 11) [.tmp 2, .tmp 64]⟩,
  ⟨some 3, none, .op .id [.val (.t (.int .i64 4))]⟩]
abbrev debuggerref36_DecodeReply.d1 : Plan := (.val ⟨some 65, none, .op .id [.tmp 8]⟩
  (.val ⟨some 66, none, .op (.idxS 1) [.tmp 65, .val (.t (.int .i64 0))]⟩
  (.val ⟨some 67, none, .op .load1 [.tmp 66]⟩
  (.val ⟨some 68, none, .op .id [.tmp 8]⟩
  (.val ⟨some 69, none, .op (.idxS 1) [.tmp 68, .val (.t (.int .i64 1))]⟩
  (.val ⟨some 70, none, .op .load1 [.tmp 69]⟩
  (.val ⟨some 71, none, .op .id [.tmp 8]⟩
  (.val ⟨some 72, none, .op (.idxS 1) [.tmp 71, .val (.t (.int .i64 2))]⟩
  (.val ⟨some 73, none, .op .load1 [.tmp 72]⟩
  (.val ⟨some 74, none, .op .id [.tmp 8]⟩
  (.val ⟨some 75, none, .op (.idxS 1) [.tmp 74, .val (.t (.int .i64 3))]⟩
  (.val ⟨some 76, none, .op .load1 [.tmp 75]⟩
  (.val ⟨some 77, none, .op .id [.tmp 8]⟩
  (.val ⟨some 78, none, .op (.idxS 1) [.tmp 77, .val (.t (.int .i64 4))]⟩
  (.val ⟨some 79, none, .op .load1 [.tmp 78]⟩
  (.val ⟨some 80, none, .op .id [.tmp 8]⟩
  (.val ⟨some 81, none, .op (.idxS 1) [.tmp 80, .val (.t (.int .i64 5))]⟩
  (.val ⟨some 82, none, .op .load1 [.tmp 81]⟩
  (.val ⟨some 83, none, .op .id [.tmp 8]⟩
  (.val ⟨some 84, none, .op (.idxS 1) [.tmp 83, .val (.t (.int .i64 6))]⟩
  (.val ⟨some 85, none, .op .load1 [.tmp 84]⟩
  (.val ⟨some 86, none, .op (.build [(.int .i64 0), (.int .i64 0), (.int .i64 0), (.int .i64 0), (.int .i64 0), (.int .i64 0), (.int .i64 0)] [(0, 1), (1, 1), (2, 1), (3, 1), (4, 1), (5, 1), (6, 1)]) [.tmp 67, .tmp 70, .tmp 73, .tmp 76, .tmp 79, .tmp 82, .tmp 85]⟩
  (.val ⟨some 87, none, .op (.fieldA 4) [.tmp 5]⟩
  (.eff ⟨none, none, .op (.store 7) [.tmp 87, .tmp 86]⟩ []
  .fin))))))))))))))))))))))))
abbrev debuggerref36_DecodeReply.r13 : List Ins := [⟨some 88, none, .op (.loadN 11) [.tmp 5]⟩,
  ⟨none, none, .op (.store 11) [.tmp 2, .tmp 88]⟩,
  ⟨some 3, none, .op .id [.val (.t (.int .i64 0))]⟩]
abbrev debuggerref36_DecodeReply.body : Cd := (.seq (.rgn debuggerref36_DecodeReply.r0) (.seq (.rgn debuggerref36_DecodeReply.r1) (.seq (.rgn debuggerref36_DecodeReply.r2) (.seq (.rgn debuggerref36_DecodeReply.r3) (.seq (.seq (.rgn debuggerref36_DecodeReply.r4) (.cond (.tmp 20) (.seq (.rgn debuggerref36_DecodeReply.r5) .ret) .skip)) (.seq (.seq (.rgn debuggerref36_DecodeReply.r6) (.block 0 (.loop debuggerref36_DecodeReply.l0))) (.seq (.rgn debuggerref36_DecodeReply.r9) (.seq (.rgn debuggerref36_DecodeReply.r10) (.seq (.seq (.rgn debuggerref36_DecodeReply.r11) (.cond (.tmp 63) (.seq (.rgn debuggerref36_DecodeReply.r12) .ret) .skip)) (.seq (.rgnD debuggerref36_DecodeReply.d1) (.seq (.rgn debuggerref36_DecodeReply.r13) .ret)))))))))))
def debuggerref36_DecodeReply.af : AF := ⟨1, 89, [.cell 2 11 false, .tmp 3], debuggerref36_DecodeReply.body⟩
theorem debuggerref36_DecodeReply.ok : cFunc PP [] Try.f52 = some debuggerref36_DecodeReply.af := by kernel_rfl
theorem debuggerref36_DecodeReply.intro {args : List V} {H : Heap} {Q : V → Heap → Prop} (hlen : args.length ≤ 89) (h : wpC (SCall PP) H.length debuggerref36_DecodeReply.body (exitK H.length [.cell 2 11 false, .tmp 3] Q) ⟨initVs 0 args, H⟩) : SCall PP N.debuggerref36_DecodeReply args H Q :=
  SCall.intro Try.func52 (by kernel_rfl) debuggerref36_DecodeReply.ok hlen h
/-! ### debugger/debuggerref36.list -/
abbrev debuggerref36_list.r0 : List Ins := [⟨some 4, none, .op .id [.val (.t (.lst 0 true []))]⟩]
abbrev debuggerref36_list.r1 : List Ins := [⟨some 6, none, .op .id [.tmp 0]⟩,
  ⟨some 7, none, .op .id [.tmp 1]⟩,
  ⟨some 8, none, .op .len [.tmp 7]⟩,
  ⟨some 9, none, .call N.debuggerref01_AppendUint [.tmp 6, .tmp 8]⟩,
  ⟨some 0, none, .op .id [.tmp 9]⟩]
abbrev debuggerref36_list.r2 : List Ins := [⟨some 5, none, .op .id [.val (.t (.int .i64 0))]⟩]
abbrev debuggerref36_list.r3 : List Ins := [⟨some 10, none, .op .id [.tmp 5]⟩,
  ⟨some 11, none, .op .id [.tmp 1]⟩,
  ⟨some 12, none, .op .len [.tmp 11]⟩,
  ⟨some 13, none, .op (.bin .lss) [.tmp 10, .tmp 12]⟩]
abbrev debuggerref36_list.r4 : List Ins := [⟨some 16, none, .op .id [.tmp 0]⟩,
  ⟨some 17, none, .op .id [.tmp 1]⟩,
  ⟨some 18, none, .op .id [.tmp 5]⟩,
  ⟨some 19, none, .op (.idxS 1) [.tmp 17, .tmp 18]⟩,
  ⟨some 20, none, .op .load1 [.tmp 19]⟩,
  ⟨some 21, none, .call N.debuggerref01_AppendInt [.tmp 16, .tmp 20]⟩,
  ⟨some 0, none, .op .id [.tmp 21]⟩]
abbrev debuggerref36_list.r5 : List Ins := [⟨some 14, none, .op .id [.tmp 5]⟩,
  ⟨some 15, none, .op (.bin .add) [.tmp 14, .val (.t (.int .i64 1))]⟩,
  ⟨some 5, none, .op .id [.tmp 15]⟩]
abbrev debuggerref36_list.l0 : Cd := (.seq (.seq (.rgn debuggerref36_list.r3) (.cond (.tmp 13) .skip (.exit 0))) (.seq (.block 1 (.rgn debuggerref36_list.r4)) (.rgn debuggerref36_list.r5)))
abbrev debuggerref36_list.r6 : List Ins := [⟨some 22, none, .op .id [.tmp 0]⟩,
  ⟨some 4, none, .op .id [.tmp 22]⟩]
abbrev debuggerref36_list.body : Cd := (.seq (.rgn debuggerref36_list.r0) (.seq (.rgn debuggerref36_list.r1) (.seq (.seq (.rgn debuggerref36_list.r2) (.block 0 (.loop debuggerref36_list.l0))) (.seq (.rgn debuggerref36_list.r6) .ret))))
def debuggerref36_list.af : AF := ⟨2, 23, [.tmp 4], debuggerref36_list.body⟩
theorem debuggerref36_list.ok : cFunc PP [] Try.f63 = some debuggerref36_list.af := by kernel_rfl
theorem debuggerref36_list.intro {args : List V} {H : Heap} {Q : V → Heap → Prop} (hlen : args.length ≤ 23) (h : wpC (SCall PP) H.length debuggerref36_list.body (exitK H.length [.tmp 4] Q) ⟨initVs 0 args, H⟩) : SCall PP N.debuggerref36_list args H Q :=
  SCall.intro Try.func63 (by kernel_rfl) debuggerref36_list.ok hlen h
/-! ### debugger/debuggerref36.thread -/
abbrev debuggerref36_thread.r0 : List Ins := [⟨some 3, none, .op .box [.tmp 1]⟩,
  ⟨some 4, none, .op .id [.val (.t (.lst 0 true []))]⟩]
abbrev debuggerref36_thread.r1 : List Ins := [⟨some 6, none, .op (.fieldA 0) [.tmp 3]⟩,
  ⟨some 7, none, .op .load1 [.tmp 6]⟩,
  ⟨some 8, none, .op (.fieldA 18) [.tmp 3]⟩,
  ⟨some 9, none, .op .load1 [.tmp 8]⟩,
  ⟨some 10, none, .op (.fieldA 1) [.tmp 3]⟩,
  ⟨some 11, none, .op (.fieldA 16) [.tmp 10]⟩,
  ⟨some 12, none, .op .load1 [.tmp 11]⟩,
  ⟨some 13, none, .op (.buildSlice 1 (.int .i64 0) 3 [0, 1, 2]) [.tmp 7, .tmp 9, .tmp 12]⟩,
  ⟨some 5, none, .op .id [.tmp 13]⟩]
abbrev debuggerref36_thread.r2 : List Ins := [⟨some 14, none, .op .id [.tmp 5]⟩,
  ⟨some 15, none, .op (.fieldA 1) [.tmp 3]⟩,
  ⟨some 16, none, .op (.fieldA 0) [.tmp 15]⟩,
  ⟨some 17, none, .op (.sliceA 16 false false) [.tmp 16]⟩,
  ⟨some 18, none, .op (.append 1 8) [.tmp 14, .tmp 17]⟩,
  ⟨some 5, none, .op .id [.tmp 18]⟩]
abbrev debuggerref36_thread.d0 : Plan := (.val ⟨some 19, none, .op .id [.tmp 0]⟩
  (.val ⟨some 20, none, .op .id [.tmp 5]⟩
  (.val ⟨some 22, none, .op (.fieldA 19) [.tmp 3]⟩
  (.val ⟨some 23, none, .op .load1 [.tmp 22]⟩
  (.eff ⟨some 21, none, .call N.debuggerref36_list [.tmp 19, .tmp 20]⟩ [⟨some 23, none, .op .load1 [.tmp 22]⟩]
  (.eff ⟨some 24, none, .call N.debuggerref36_list [.tmp 21, .tmp 23]⟩ []
  (.val ⟨some 4, none, .op .id [.tmp 24]⟩
  .fin)))))))
abbrev debuggerref36_thread.body : Cd := (.seq (.rgn debuggerref36_thread.r0) (.seq (.rgn debuggerref36_thread.r1) (.seq (.rgn debuggerref36_thread.r2) (.seq (.rgnD debuggerref36_thread.d0) .ret))))
def debuggerref36_thread.af : AF := ⟨2, 25, [.tmp 4], debuggerref36_thread.body⟩
theorem debuggerref36_thread.ok : cFunc PP [] Try.f71 = some debuggerref36_thread.af := by kernel_rfl
theorem debuggerref36_thread.intro {args : List V} {H : Heap} {Q : V → Heap → Prop} (hlen : args.length ≤ 25) (h : wpC (SCall PP) H.length debuggerref36_thread.body (exitK H.length [.tmp 4] Q) ⟨initVs 0 args, H⟩) : SCall PP N.debuggerref36_thread args H Q :=
  SCall.intro Try.func71 (by kernel_rfl) debuggerref36_thread.ok hlen h
/-! ### debugger/debuggerref36.output -/
abbrev debuggerref36_output.r0 : List Ins := [⟨some 4, none, .op .id [.val (.t (.lst 0 true []))]⟩]
abbrev debuggerref36_output.r1 : List Ins := [⟨some 5, none, .op .id [.val (.t (.lst 0 true []))]⟩]
abbrev debuggerref36_output.r2 : List Ins := [⟨some 6, none, .op .id [.val (.t (.int .i64 0))]⟩]
abbrev debuggerref36_output.r3 : List Ins := [⟨some 7, none, .op .id [.tmp 6]⟩,
  ⟨some 8, none, .op .id [.tmp 1]⟩,
  ⟨some 9, none, .op .len [.tmp 8]⟩,
  ⟨some 10, none, .op (.bin .lss) [.tmp 7, .tmp 9]⟩]
abbrev debuggerref36_output.d0 : Plan := (.val ⟨some 13, none, .op .id [.tmp 5]⟩
  (.val ⟨some 14, none, .op .id [.tmp 1]⟩
  (.val ⟨some 15, none, .op .id [.tmp 6]⟩
  (.val ⟨some 16, none, .op (.idxS 2) [.tmp 14, .tmp 15]⟩
  (.val ⟨some 17, none, .op (.fieldA 0) [.tmp 16]⟩
  (.val ⟨some 18, none, .op .load1 [.tmp 17]⟩
  (.val ⟨some 19, none, .op .id [.tmp 1]⟩
  (.val ⟨some 20, none, .op .id [.tmp 6]⟩
  (.val ⟨some 21, none, .op (.idxS 2) [.tmp 19, .tmp 20]⟩
  (.val ⟨some 22, none, .op (.fieldA 1) [.tmp 21]⟩
  (.val ⟨some 23, none, .op .load1 [.tmp 22]⟩
  (.eff ⟨some 24, none, .op (.buildSlice 1 (.int .i64 0) 2 [0, 1]) [.tmp 18, .tmp 23]⟩ []
  (.eff ⟨some 25, none, .op (.append 1 8) [.tmp 13, .tmp 24]⟩ []
  (.eff ⟨some 5, none, .op .id [.tmp 25]⟩ []
  .fin))))))))))))))
abbrev debuggerref36_output.r4 : List Ins := [⟨some 11, none, .op .id [.tmp 6]⟩,
  ⟨some 12, none, .op (.bin .add) [.tmp 11, .val (.t (.int .i64 1))]⟩,
  ⟨some 6, none, .op .id [.tmp 12]⟩]
abbrev debuggerref36_output.l0 : Cd := (.seq (.seq (.rgn debuggerref36_output.r3) (.cond (.tmp 10) .skip (.exit 0))) (.seq (.block 1 (.rgnD debuggerref36_output.d0)) (.rgn debuggerref36_output.r4)))
abbrev debuggerref36_output.r5 : List Ins := [⟨some 26, none, .op .id [.tmp 0]⟩,
  ⟨some 27, none, .op .id [.tmp 5]⟩,
  ⟨some 28, none, .call N.debuggerref36_list [.tmp 26, .tmp 27]⟩,
  ⟨some 4, none, .op .id [.tmp 28]⟩]
abbrev debuggerref36_output.body : Cd := (.seq (.rgn debuggerref36_output.r0) (.seq (.rgn debuggerref36_output.r1) (.seq (.seq (.rgn debuggerref36_output.r2) (.block 0 (.loop debuggerref36_output.l0))) (.seq (.rgn debuggerref36_output.r5) .ret))))
def debuggerref36_output.af : AF := ⟨2, 29, [.tmp 4], debuggerref36_output.body⟩
theorem debuggerref36_output.ok : cFunc PP [] Try.f72 = some debuggerref36_output.af := by kernel_rfl
theorem debuggerref36_output.intro {args : List V} {H : Heap} {Q : V → Heap → Prop} (hlen : args.length ≤ 29) (h : wpC (SCall PP) H.length debuggerref36_output.body (exitK H.length [.tmp 4] Q) ⟨initVs 0 args, H⟩) : SCall PP N.debuggerref36_output args H Q :=
  SCall.intro Try.func72 (by kernel_rfl) debuggerref36_output.ok hlen h
/-! ### (*debugger/debuggerref36.reader).list -/
abbrev debuggerref36_reader_list.r0 : List Ins := [⟨some 4, none, .op .id [.val (.t (.lst 0 true []))]⟩]
abbrev debuggerref36_reader_list.r1 : List Ins := [⟨some 8, none, .op .id [.tmp 0]⟩,
  ⟨some 9, none, .call N.debuggerref36_reader_uint [.tmp 8]⟩,
  ⟨some 5, none, .op .id [.tmp 9]⟩]
abbrev debuggerref36_reader_list.r2 : List Ins := [⟨some 10, none, .op .id [.tmp 5]⟩,
  ⟨some 11, none, .op .id [.tmp 1]⟩,
  ⟨some 12, none, .op (.bin .gtr) [.tmp 10, .tmp 11]⟩]
abbrev debuggerref36_reader_list.r3 : List Ins := [⟨some 13, none, .op .id [.tmp 0]⟩,
  ⟨some 14, none, .op .nilck [.tmp 13]⟩,
  ⟨some 15, none, .op (.fieldA 2) [.tmp 14]⟩,
  ⟨none, none, .op (.store 1) [.tmp 15, .val (.t (.bool true))]⟩]
abbrev debuggerref36_reader_list.r4 : List Ins := [⟨some 6, none, .op .id [.val (.t (.lst 0 true []))]⟩]
abbrev debuggerref36_reader_list.r5 : List Ins := [⟨some 7, none, .op .id [.val (.t (.int .i64 0))]⟩]
abbrev debuggerref36_reader_list.r6 : List Ins := [⟨some 16, none, .op .id [.tmp 7]⟩,
  ⟨some 17, none, .op .id [.tmp 5]⟩,
  ⟨some 18, none, .op (.bin .lss) [.tmp 16, .tmp 17]⟩,
  ⟨some 19, none, .op .id [.tmp 18]⟩,
  ⟨some 20, some (19, true), .op .id [.tmp 0]⟩,
  ⟨some 21, some (19, true), .op .nilck [.tmp 20]⟩,
  ⟨some 22, some (19, true), .op (.fieldA 2) [.tmp 21]⟩,
  ⟨some 23, some (19, true), .op .load1 [.tmp 22]⟩,
  ⟨some 24, some (19, true), .op (.un .not) [.tmp 23]⟩,
  ⟨some 25, none, .op .pick [.tmp 19, .tmp 24, .val (.t (.bool false))]⟩]
abbrev debuggerref36_reader_list.r7 : List Ins := [⟨some 28, none, .op .id [.tmp 6]⟩,
  ⟨some 29, none, .op .id [.tmp 0]⟩,
  ⟨some 30, none, .call N.debuggerref36_reader_int [.tmp 29]⟩,
  ⟨some 31, none, .op (.buildSlice 1 (.int .i64 0) 1 [0]) [.tmp 30]⟩,
  ⟨some 32, none, .op (.append 1 8) [.tmp 28, .tmp 31]⟩,
  ⟨some 6, none, .op .id [.tmp 32]⟩]
abbrev debuggerref36_reader_list.r8 : List Ins := [⟨some 26, none, .op .id [.tmp 7]⟩,
  ⟨some 27, none, .op (.bin .add) [.tmp 26, .val (.t (.int .i64 1))]⟩,
  ⟨some 7, none, .op .id [.tmp 27]⟩]
abbrev debuggerref36_reader_list.l0 : Cd := (.seq (.seq (.rgn debuggerref36_reader_list.r6) (.cond (.tmp 25) .skip (.exit 0))) (.seq (.block 1 (.rgn debuggerref36_reader_list.r7)) (.rgn debuggerref36_reader_list.r8)))
abbrev debuggerref36_reader_list.r9 : List Ins := [⟨some 33, none, .op .id [.tmp 6]⟩,
  ⟨some 4, none, .op .id [.tmp 33]⟩]
abbrev debuggerref36_reader_list.body : Cd := (.seq (.rgn debuggerref36_reader_list.r0) (.seq (.rgn debuggerref36_reader_list.r1) (.seq (.seq (.rgn debuggerref36_reader_list.r2) (.cond (.tmp 12) (.rgn debuggerref36_reader_list.r3) .skip)) (.seq (.rgn debuggerref36_reader_list.r4) (.seq (.seq (.rgn debuggerref36_reader_list.r5) (.block 0 (.loop debuggerref36_reader_list.l0))) (.seq (.rgn debuggerref36_reader_list.r9) .ret))))))
def debuggerref36_reader_list.af : AF := ⟨2, 34, [.tmp 4], debuggerref36_reader_list.body⟩
theorem debuggerref36_reader_list.ok : cFunc PP [] Try.f73 = some debuggerref36_reader_list.af := by kernel_rfl
theorem debuggerref36_reader_list.intro {args : List V} {H : Heap} {Q : V → Heap → Prop} (hlen : args.length ≤ 34) (h : wpC (SCall PP) H.length debuggerref36_reader_list.body (exitK H.length [.tmp 4] Q) ⟨initVs 0 args, H⟩) : SCall PP N.debuggerref36_reader_list args H Q :=
  SCall.intro Try.func73 (by kernel_rfl) debuggerref36_reader_list.ok hlen h
/-! ### (*debugger/debuggerref36.reader).int -/
abbrev debuggerref36_reader_int.r0 : List Ins := [⟨some 2, none, .op .id [.val (.t (.int .i64 0))]⟩]
abbrev debuggerref36_reader_int.d0 : Plan := (.val ⟨some 7, none, .op .id [.tmp 0]⟩
  (.val ⟨some 8, none, .op .nilck [.tmp 7]⟩
  (.val ⟨some 9, none, .op (.fieldA 0) [.tmp 8]⟩
  (.val ⟨some 10, none, .op .load1 [.tmp 9]⟩
  (.val ⟨some 11, none, .op .id [.tmp 0]⟩
  (.val ⟨some 12, none, .op .nilck [.tmp 11]⟩
  (.val ⟨some 13, none, .op (.fieldA 1) [.tmp 12]⟩
  (.val ⟨some 14, none, .op .load1 [.tmp 13]⟩
  (.eff ⟨some 15, none, .call N.debuggerref01_Int [.tmp 10, .tmp 14]⟩ []
  (.val ⟨some 6, none, .op .id [.tmp 15]⟩
  (.val ⟨some 16, none, .op (.extract 0) [.tmp 6]⟩
  (.val ⟨some 17, none, .op (.extract 1) [.tmp 6]⟩
  (.val ⟨some 18, none, .op (.extract 2) [.tmp 6]⟩
  (.val ⟨some 3, none, .op .id [.tmp 16]⟩
  (.val ⟨some 4, none, .op .id [.tmp 17]⟩
  (.val ⟨some 5, none, .op .id [.tmp 18]⟩
  .fin))))))))))))))))
abbrev debuggerref36_reader_int.r1 : List Ins := [⟨some 19, none, .op .id [.tmp 0]⟩,
  ⟨some 20, none, .op .nilck [.tmp 19]⟩,
  ⟨some 21, none, .op (.fieldA 2) [.tmp 20]⟩,
  ⟨some 22, none, .op .load1 [.tmp 21]⟩,
  ⟨some 23, none, .op .id [.tmp 22]⟩,
  ⟨some 24, some (23, false), .op .id [.tmp 5]⟩,
  ⟨some 25, some (23, false), .op (.bin .neq) [.tmp 24, .val (.t (.int .i64 0))]⟩,
  ⟨some 26, none, .op .pick [.tmp 23, .val (.t (.bool true)), .tmp 25]⟩]
abbrev debuggerref36_reader_int.r2 : List Ins := [⟨some 27, none, .op .id [.tmp 0]⟩,
  ⟨some 28, none, .op .nilck [.tmp 27]⟩,
  ⟨some 29, none, .op (.fieldA 2) [.tmp 28]⟩,
  ⟨none, none, .op (.store 1) [.tmp 29, .val (.t (.bool true))]⟩]
abbrev debuggerref36_reader_int.r3 : List Ins := [⟨some 2, none, .op .id [.val (.t (.int .i64 0))]⟩]
abbrev debuggerref36_reader_int.r4 : List Ins := [⟨some 30, none, .op .id [.tmp 0]⟩,
  ⟨some 31, none, .op .id [.tmp 4]⟩,
  ⟨some 32, none, .op .nilck [.tmp 30]⟩,
  ⟨some 33, none, .op (.fieldA 1) [.tmp 32]⟩,
  ⟨none, none, .op (.store 1) [.tmp 33, .tmp 31]⟩]
abbrev debuggerref36_reader_int.r5 : List Ins := [⟨some 34, none, .op .id [.tmp 3]⟩,
  ⟨some 2, none, .op .id [.tmp 34]⟩]
abbrev debuggerref36_reader_int.body : Cd := (.seq (.rgn debuggerref36_reader_int.r0) (.seq (.rgnD debuggerref36_reader_int.d0) (.seq (.seq (.rgn debuggerref36_reader_int.r1) (.cond (.tmp 26) (.seq (.rgn debuggerref36_reader_int.r2) (.seq (.rgn debuggerref36_reader_int.r3) .ret)) .skip)) (.seq (.rgn debuggerref36_reader_int.r4) (.seq (.rgn debuggerref36_reader_int.r5) .ret)))))
def debuggerref36_reader_int.af : AF := ⟨1, 35, [.tmp 2], debuggerref36_reader_int.body⟩
theorem debuggerref36_reader_int.ok : cFunc PP [] Try.f76 = some debuggerref36_reader_int.af := by kernel_rfl
theorem debuggerref36_reader_int.intro {args : List V} {H : Heap} {Q : V → Heap → Prop} (hlen : args.length ≤ 35) (h : wpC (SCall PP) H.length debuggerref36_reader_int.body (exitK H.length [.tmp 2] Q) ⟨initVs 0 args, H⟩) : SCall PP N.debuggerref36_reader_int args H Q :=
  SCall.intro Try.func76 (by kernel_rfl) debuggerref36_reader_int.ok hlen h
/-! ### (*debugger/debuggerref36.reader).uint -/
abbrev debuggerref36_reader_uint.r0 : List Ins := [⟨some 2, none, .op .id [.val (.t (.int .i64 0))]⟩]
abbrev debuggerref36_reader_uint.d0 : Plan := (.val ⟨some 7, none, .op .id [.tmp 0]⟩
  (.val ⟨some 8, none, .op .nilck [.tmp 7]⟩
  (.val ⟨some 9, none, .op (.fieldA 0) [.tmp 8]⟩
  (.val ⟨some 10, none, .op .load1 [.tmp 9]⟩
  (.val ⟨some 11, none, .op .id [.tmp 0]⟩
  (.val ⟨some 12, none, .op .nilck [.tmp 11]⟩
  (.val ⟨some 13, none, .op (.fieldA 1) [.tmp 12]⟩
  (.val ⟨some 14, none, .op .load1 [.tmp 13]⟩
  (.eff ⟨some 15, none, .call N.debuggerref01_Uint [.tmp 10, .tmp 14]⟩ []
  (.val ⟨some 6, none, .op .id [.tmp 15]⟩
  (.val ⟨some 16, none, .op (.extract 0) [.tmp 6]⟩
  (.val ⟨some 17, none, .op (.extract 1) [.tmp 6]⟩
  (.val ⟨some 18, none, .op (.extract 2) [.tmp 6]⟩
  (.val ⟨some 3, none, .op .id [.tmp 16]⟩
  (.val ⟨some 4, none, .op .id [.tmp 17]⟩
  (.val ⟨some 5, none, .op .id [.tmp 18]⟩
  .fin))))))))))))))))
abbrev debuggerref36_reader_uint.r1 : List Ins := [⟨some 19, none, .op .id [.tmp 0]⟩,
  ⟨some 20, none, .op .nilck [.tmp 19]⟩,
  ⟨some 21, none, .op (.fieldA 2) [.tmp 20]⟩,
  ⟨some 22, none, .op .load1 [.tmp 21]⟩,
  ⟨some 23, none, .op .id [.tmp 22]⟩,
  ⟨some 24, some (23, false), .op .id [.tmp 5]⟩,
  ⟨some 25, some (23, false), .op (.bin .neq) [.tmp 24, .val (.t (.int .i64 0))]⟩,
  ⟨some 26, none, .op .pick [.tmp 23, .val (.t (.bool true)), .tmp 25]⟩]
abbrev debuggerref36_reader_uint.r2 : List Ins := [⟨some 27, none, .op .id [.tmp 0]⟩,
  ⟨some 28, none, .op .nilck [.tmp 27]⟩,
  ⟨some 29, none, .op (.fieldA 2) [.tmp 28]⟩,
  ⟨none, none, .op (.store 1) [.tmp 29, .val (.t (.bool true))]⟩]
abbrev debuggerref36_reader_uint.r3 : List Ins := [⟨some 2, none, .op .id [.val (.t (.int .i64 0))]⟩]
abbrev debuggerref36_reader_uint.r4 : List Ins := [⟨some 30, none, .op .id [.tmp 0]⟩,
  ⟨some 31, none, .op .id [.tmp 4]⟩,
  ⟨some 32, none, .op .nilck [.tmp 30]⟩,
  ⟨some 33, none, .op (.fieldA 1) [.tmp 32]⟩,
  ⟨none, none, .op (.store 1) [.tmp 33, .tmp 31]⟩]
abbrev debuggerref36_reader_uint.r5 : List Ins := [⟨some 34, none, .op .id [.tmp 3]⟩,
  ⟨some 2, none, .op .id [.tmp 34]⟩]
abbrev debuggerref36_reader_uint.body : Cd := (.seq (.rgn debuggerref36_reader_uint.r0) (.seq (.rgnD debuggerref36_reader_uint.d0) (.seq (.seq (.rgn debuggerref36_reader_uint.r1) (.cond (.tmp 26) (.seq (.rgn debuggerref36_reader_uint.r2) (.seq (.rgn debuggerref36_reader_uint.r3) .ret)) .skip)) (.seq (.rgn debuggerref36_reader_uint.r4) (.seq (.rgn debuggerref36_reader_uint.r5) .ret)))))
def debuggerref36_reader_uint.af : AF := ⟨1, 35, [.tmp 2], debuggerref36_reader_uint.body⟩
theorem debuggerref36_reader_uint.ok : cFunc PP [] Try.f77 = some debuggerref36_reader_uint.af := by kernel_rfl
theorem debuggerref36_reader_uint.intro {args : List V} {H : Heap} {Q : V → Heap → Prop} (hlen : args.length ≤ 35) (h : wpC (SCall PP) H.length debuggerref36_reader_uint.body (exitK H.length [.tmp 2] Q) ⟨initVs 0 args, H⟩) : SCall PP N.debuggerref36_reader_uint args H Q :=
  SCall.intro Try.func77 (by kernel_rfl) debuggerref36_reader_uint.ok hlen h
/-! ### (*debugger/debuggerref36.reader).thread -/
abbrev debuggerref36_reader_thread.r0 : List Ins := [⟨some 2, none, .op (.alloc [(.int .i64 0), (.int .i64 0), (.int .i64 0), (.int .i64 0), (.int .i64 0), (.int .i64 0), (.int .i64 0), (.int .i64 0), (.int .i64 0), (.int .i64 0), (.int .i64 0), (.int .i64 0), (.int .i64 0), (.int .i64 0), (.int .i64 0), (.int .i64 0), (.int .i64 0), (.int .i64 0), (.int .i64 0), (.lst 0 true [])]) []⟩]
abbrev debuggerref36_reader_thread.r1 : List Ins := [⟨some 5, none, .op .id [.tmp 0]⟩,
  ⟨some 6, none, .call N.debuggerref36_reader_list [.tmp 5, .val (.t (.int .i64 19))]⟩,
  ⟨some 3, none, .op .id [.tmp 6]⟩]
abbrev debuggerref36_reader_thread.r2 : List Ins := [⟨some 7, none, .op .id [.tmp 3]⟩,
  ⟨some 8, none, .op .len [.tmp 7]⟩,
  ⟨some 9, none, .op (.bin .neq) [.tmp 8, .val (.t (.int .i64 19))]⟩]
abbrev debuggerref36_reader_thread.r3 : List Ins := [⟨some 10, none, .op .id [.tmp 0]⟩,
  ⟨some 11, none, .op .nilck [.tmp 10]⟩,
  ⟨some 12, none, .op (.fieldA 2) [.tmp 11]⟩,
  ⟨none, none, .op (.store 1) [.tmp 12, .val (.t (.bool true))]⟩]
abbrev debuggerref36_reader_thread.r4 : List Ins := [⟨some 13, none, .op (.build [(.int .i64 0), (.int .i64 0), (.int .i64 0), (.int .i64 0), (.int .i64 0), (.int .i64 0), (.int .i64 0), (.int .i64 0), (.int .i64 0), (.int .i64 0), (.int .i64 0), (.int .i64 0), (.int .i64 0), (.int .i64 0), (.int .i64 0), (.int .i64 0), (.int .i64 0), (.int .i64 0), (.int .i64 0), (.lst 0 true [])] []) []⟩,
  ⟨none, none, .op (.store 20) [.tmp 2, .tmp 13]⟩]
abbrev debuggerref36_reader_thread.d0 : Plan := (.val ⟨some 14, none, .op .id [.tmp 3]⟩
  (.val ⟨some 15, none, .op (.idxS 1) [.tmp 14, .val (.t (.int .i64 0))]⟩
  (.val ⟨some 16, none, .op .load1 [.tmp 15]⟩
  (.val ⟨some 17, none, .op .id [.tmp 3]⟩
  (.val ⟨some 18, none, .op (.idxS 1) [.tmp 17, .val (.t (.int .i64 1))]⟩
  (.val ⟨some 19, none, .op .load1 [.tmp 18]⟩
  (.val ⟨some 20, none, .op .id [.tmp 3]⟩
  (.val ⟨some 21, none, .op (.idxS 1) [.tmp 20, .val (.t (.int .i64 2))]⟩
  (.val ⟨some 22, none, .op .load1 [.tmp 21]⟩
  (.val ⟨some 23, none, .op (.build [(.int .i64 0), (.int .i64 0), (.int .i64 0), (.int .i64 0), (.int .i64 0), (.int .i64 0), (.int .i64 0), (.int .i64 0), (.int .i64 0), (.int .i64 0), (.int .i64 0), (.int .i64 0), (.int .i64 0), (.int .i64 0), (.int .i64 0), (.int .i64 0), (.int .i64 0)] [(16, 1)]) [.tmp 22]⟩
  (.val ⟨some 24, none, .op (.build [(.int .i64 0), (.int .i64 0), (.int .i64 0), (.int .i64 0), (.int .i64 0), (.int .i64 0), (.int .i64 0), (.int .i64 0), (.int .i64 0), (.int .i64 0), (.int .i64 0), (.int .i64 0), (.int .i64 0), (.int .i64 0), (.int .i64 0), (.int .i64 0), (.int .i64 0), (.int .i64 0), (.int .i64 0), (.lst 0 true [])] [(0, 1), (18, 1), (1, 17)]) [.tmp 16, .tmp 19, .tmp 23]⟩
  (.eff ⟨some 4, none, .op (.alloc [(.int .i64 0), (.int .i64 0), (.int .i64 0), (.int .i64 0), (.int .i64 0), (.int .i64 0), (.int .i64 0), (.int .i64 0), (.int .i64 0), (.int .i64 0), (.int .i64 0), (.int .i64 0), (.int .i64 0), (.int .i64 0), (.int .i64 0), (.int .i64 0), (.int .i64 0), (.int .i64 0), (.int .i64 0), (.lst 0 true [])]) []⟩ [⟨some 15, none, .op (.idxS 1) [.tmp 14, .val (.t (.int .i64 0))]⟩, ⟨some 16, none, .op .load1 [.tmp 15]⟩, ⟨some 18, none, .op (.idxS 1) [.tmp 17, .val (.t (.int .i64 1))]⟩, ⟨some 19, none, .op .load1 [.tmp 18]⟩, ⟨some 21, none, .op (.idxS 1) [.tmp 20, .val (.t (.int .i64 2))]⟩, ⟨some 22, none, .op .load1 [.tmp 21]⟩]
  (.eff ⟨none, none, .op (.store 20) [.tmp 4, .tmp 24]⟩ []
  .fin)))))))))))))
abbrev debuggerref36_reader_thread.d1 : Plan := (.val ⟨some 25, none, .op (.fieldA 1) [.tmp 4]⟩
  (.val ⟨some 26, none, .op (.fieldA 0) [.tmp 25]⟩
  (.val ⟨some 27, none, .op (.sliceA 16 false false) [.tmp 26]⟩
  (.val ⟨some 28, none, .op .id [.tmp 3]⟩
  (.val ⟨some 29, none, .op (.slice 1 true false) [.tmp 28, .val (.t (.int .i64 3))]⟩
  (.eff ⟨some 30, none, .op (.copy 1) [.tmp 27, .tmp 29]⟩ []
  .fin))))))
abbrev debuggerref36_reader_thread.r5 : List Ins := [⟨some 31, none, .op .id [.tmp 0]⟩,
  ⟨some 32, none, .call N.debuggerref36_reader_list [.tmp 31, .val (.t (.int .i64 4))]⟩,
  ⟨some 33, none, .op (.fieldA 19) [.tmp 4]⟩,
  ⟨none, none, .op (.store 1) [.tmp 33, .tmp 32]⟩]
abbrev debuggerref36_reader_thread.r6 : List Ins := [⟨some 34, none, .op (.loadN 20) [.tmp 4]⟩,
  ⟨none, none, .op (.store 20) [.tmp 2, .tmp 34]⟩]
abbrev debuggerref36_reader_thread.body : Cd := (.seq (.rgn debuggerref36_reader_thread.r0) (.seq (.rgn debuggerref36_reader_thread.r1) (.seq (.seq (.rgn debuggerref36_reader_thread.r2) (.cond (.tmp 9) (.seq (.rgn debuggerref36_reader_thread.r3) (.seq (.rgn debuggerref36_reader_thread.r4) .ret)) .skip)) (.seq (.rgnD debuggerref36_reader_thread.d0) (.seq (.rgnD debuggerref36_reader_thread.d1) (.seq (.rgn debuggerref36_reader_thread.r5) (.seq (.rgn debuggerref36_reader_thread.r6) .ret)))))))
def debuggerref36_reader_thread.af : AF := ⟨1, 35, [.cell 2 20 false], debuggerref36_reader_thread.body⟩
theorem debuggerref36_reader_thread.ok : cFunc PP [] Try.f78 = some debuggerref36_reader_thread.af := by kernel_rfl
theorem debuggerref36_reader_thread.intro {args : List V} {H : Heap} {Q : V → Heap → Prop} (hlen : args.length ≤ 35) (h : wpC (SCall PP) H.length debuggerref36_reader_thread.body (exitK H.length [.cell 2 20 false] Q) ⟨initVs 0 args, H⟩) : SCall PP N.debuggerref36_reader_thread args H Q :=
  SCall.intro Try.func78 (by kernel_rfl) debuggerref36_reader_thread.ok hlen h
/-! ### (*debugger/debuggerref36.reader).output -/
abbrev debuggerref36_reader_output.r0 : List Ins := [⟨some 4, none, .op .id [.val (.t (.lst 0 true []))]⟩]
abbrev debuggerref36_reader_output.r1 : List Ins := [⟨some 8, none, .op .id [.tmp 0]⟩,
  ⟨some 9, none, .op .id [.tmp 1]⟩,
  ⟨some 10, none, .op (.bin .mul) [.val (.t (.int .i64 2)), .tmp 9]⟩,
  ⟨some 11, none, .call N.debuggerref36_reader_list [.tmp 8, .tmp 10]⟩,
  ⟨some 5, none, .op .id [.tmp 11]⟩]
abbrev debuggerref36_reader_output.r2 : List Ins := [⟨some 12, none, .op .id [.tmp 5]⟩,
  ⟨some 13, none, .op .len [.tmp 12]⟩,
  ⟨some 14, none, .op (.bin .rem) [.tmp 13, .val (.t (.int .i64 2))]⟩,
  ⟨some 15, none, .op (.bin .eql) [.tmp 14, .val (.t (.int .i64 1))]⟩]
abbrev debuggerref36_reader_output.r3 : List Ins := [⟨some 16, none, .op .id [.tmp 0]⟩,
  ⟨some 17, none, .op .nilck [.tmp 16]⟩,
  ⟨some 18, none, .op (.fieldA 2) [.tmp 17]⟩,
  ⟨none, none, .op (.store 1) [.tmp 18, .val (.t (.bool true))]⟩]
abbrev debuggerref36_reader_output.r4 : List Ins := [⟨some 6, none, .op .id [.val (.t (.lst 0 true []))]⟩]
abbrev debuggerref36_reader_output.r5 : List Ins := [⟨some 7, none, .op .id [.val (.t (.int .i64 0))]⟩]
abbrev debuggerref36_reader_output.r6 : List Ins := [⟨some 19, none, .op .id [.tmp 7]⟩,
  ⟨some 20, none, .op (.bin .add) [.tmp 19, .val (.t (.int .i64 1))]⟩,
  ⟨some 21, none, .op .id [.tmp 5]⟩,
  ⟨some 22, none, .op .len [.tmp 21]⟩,
  ⟨some 23, none, .op (.bin .lss) [.tmp 20, .tmp 22]⟩]
abbrev debuggerref36_reader_output.d0 : Plan := (.val ⟨some 26, none, .op .id [.tmp 6]⟩
  (.val ⟨some 27, none, .op .id [.tmp 5]⟩
  (.val ⟨some 28, none, .op .id [.tmp 7]⟩
  (.val ⟨some 29, none, .op (.idxS 1) [.tmp 27, .tmp 28]⟩
  (.val ⟨some 30, none, .op .load1 [.tmp 29]⟩
  (.val ⟨some 31, none, .op .id [.tmp 5]⟩
  (.val ⟨some 32, none, .op .id [.tmp 7]⟩
  (.val ⟨some 33, none, .op (.bin .add) [.tmp 32, .val (.t (.int .i64 1))]⟩
  (.val ⟨some 34, none, .op (.idxS 1) [.tmp 31, .tmp 33]⟩
  (.val ⟨some 35, none, .op .load1 [.tmp 34]⟩
  (.val ⟨some 36, none, .op (.build [(.int .i64 0), (.int .i64 0)] [(0, 1), (1, 1)]) [.tmp 30, .tmp 35]⟩
  (.eff ⟨some 37, none, .op (.buildSlice 2 (.agg [(.int .i64 0), (.int .i64 0)]) 1 [0]) [.tmp 36]⟩ []
  (.eff ⟨some 38, none, .op (.append 2 16) [.tmp 26, .tmp 37]⟩ []
  (.eff ⟨some 6, none, .op .id [.tmp 38]⟩ []
  .fin))))))))))))))
abbrev debuggerref36_reader_output.r7 : List Ins := [⟨some 24, none, .op .id [.tmp 7]⟩,
  ⟨some 25, none, .op (.bin .add) [.tmp 24, .val (.t (.int .i64 2))]⟩,
  ⟨some 7, none, .op .id [.tmp 25]⟩]
abbrev debuggerref36_reader_output.l0 : Cd := (.seq (.seq (.rgn debuggerref36_reader_output.r6) (.cond (.tmp 23) .skip (.exit 0))) (.seq (.block 1 (.rgnD debuggerref36_reader_output.d0)) (.rgn debuggerref36_reader_output.r7)))
abbrev debuggerref36_reader_output.r8 : List Ins := [⟨some 39, none, .op .id [.tmp 6]⟩,
  ⟨some 4, none, .op .id [.tmp 39]⟩]
abbrev debuggerref36_reader_output.body : Cd := (.seq (.rgn debuggerref36_reader_output.r0) (.seq (.rgn debuggerref36_reader_output.r1) (.seq (.seq (.rgn debuggerref36_reader_output.r2) (.cond (.tmp 15) (.rgn debuggerref36_reader_output.r3) .skip)) (.seq (.rgn debuggerref36_reader_output.r4) (.seq (.seq (.rgn debuggerref36_reader_output.r5) (.block 0 (.loop debuggerref36_reader_output.l0))) (.seq (.rgn debuggerref36_reader_output.r8) .ret))))))
def debuggerref36_reader_output.af : AF := ⟨2, 40, [.tmp 4], debuggerref36_reader_output.body⟩
theorem debuggerref36_reader_output.ok : cFunc PP [] Try.f79 = some debuggerref36_reader_output.af := by kernel_rfl
theorem debuggerref36_reader_output.intro {args : List V} {H : Heap} {Q : V → Heap → Prop} (hlen : args.length ≤ 40) (h : wpC (SCall PP) H.length debuggerref36_reader_output.body (exitK H.length [.tmp 4] Q) ⟨initVs 0 args, H⟩) : SCall PP N.debuggerref36_reader_output args H Q :=
  SCall.intro Try.func79 (by kernel_rfl) debuggerref36_reader_output.ok hlen h
end Go.Proofs.Ytljjabccgbakgaa
