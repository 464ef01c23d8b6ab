/- The functions of package message as the code of the abstract machine. Written by a program of the session. -/
import Derived.Test.YtljjabccgbakgaaFn
namespace Go.Proofs.Ytljjabccgbakgaa
open Go Go.Abs
set_option maxRecDepth 100000
/-! ### debugger/message.EncodeCommand -/
abbrev message_EncodeCommand.r0 : List Ins := [⟨some 1, none, .op .box [.tmp 0]⟩,
  ⟨some 2, none, .op .id [.val (.t (.lst 0 true []))]⟩,
  ⟨some 3, none, .op .id [.val (.t (.int .i64 0))]⟩]
abbrev message_EncodeCommand.r1 : List Ins := [⟨some 4, none, .op (.fieldA 4) [.tmp 1]⟩,
  ⟨some 5, none, .op .load1 [.tmp 4]⟩,
  ⟨some 6, none, .op .len [.tmp 5]⟩,
  ⟨some 7, none, .op (.bin .gtr) [.tmp 6, .val (.t (.int .i64 128))]⟩]
abbrev message_EncodeCommand.r2 : List Ins := [⟨some 2, none, .op .id [.val (.t (.lst 0 true []))]⟩,
  ⟨some 3, none, .op .id [.val (.t (.int .i64 5))]⟩]
abbrev message_EncodeCommand.d0 : Plan := (.val ⟨some 8, none, .op (.fieldA 0) [.tmp 1]⟩
  (.val ⟨some 9, none, .op .load1 [.tmp 8]⟩
  (.val ⟨some 10, none, .op (.fieldA 1) [.tmp 1]⟩
  (.val ⟨some 11, none, .op .load1 [.tmp 10]⟩
  (.val ⟨some 12, none, .op (.fieldA 2) [.tmp 1]⟩
  (.val ⟨some 13, none, .op .load1 [.tmp 12]⟩
  (.val ⟨some 14, none, .op (.fieldA 3) [.tmp 1]⟩
  (.val ⟨some 15, none, .op .load1 [.tmp 14]⟩
  (.val ⟨some 18, none, .op (.fieldA 4) [.tmp 1]⟩
  (.val ⟨some 19, none, .op .load1 [.tmp 18]⟩
  (.eff ⟨some 16, none, .op (.buildSlice 1 (.int .i64 0) 4 [0, 1, 2, 3]) [.tmp 9, .tmp 11, .tmp 13, .tmp 15]⟩ [⟨some 19, none, .op .load1 [.tmp 18]⟩]
  (.eff ⟨some 17, none, .call N.message_appendInts [.val (.t (.lst 0 true [])), .tmp 16]⟩ [⟨some 19, none, .op .load1 [.tmp 18]⟩]
  (.eff ⟨some 20, none, .call N.message_appendInts [.tmp 17, .tmp 19]⟩ []
  (.val ⟨some 2, none, .op .id [.tmp 20]⟩
  (.val ⟨some 3, none, .op .id [.val (.t (.int .i64 0))]⟩
  .fin)))))))))))))))
abbrev message_EncodeCommand.body : Cd := (.seq (.rgn message_EncodeCommand.r0) (.seq (.seq (.rgn message_EncodeCommand.r1) (.cond (.tmp 7) (.seq (.rgn message_EncodeCommand.r2) .ret) .skip)) (.seq (.rgnD message_EncodeCommand.d0) .ret)))
def message_EncodeCommand.af : AF := ⟨1, 21, [.tmp 2, .tmp 3], message_EncodeCommand.body⟩
theorem message_EncodeCommand.ok : cFunc PP [] Try.f34 = some message_EncodeCommand.af := by kernel_rfl
theorem message_EncodeCommand.intro {args : List V} {H : Heap} {Q : V → Heap → Prop} (hlen : args.length ≤ 21) (h : wpC (SCall PP) H.length message_EncodeCommand.body (exitK H.length [.tmp 2, .tmp 3] Q) ⟨initVs 0 args, H⟩) : SCall PP N.message_EncodeCommand args H Q :=
  SCall.intro Try.func34 (by kernel_rfl) message_EncodeCommand.ok hlen h
/-! ### debugger/message.DecodeCommand -/
abbrev message_DecodeCommand.r0 : List Ins := [⟨some 2, none, .op (.alloc [(.int .i64 0), (.int .i64 0), (.int .i64 0), (.int .i64 0), (.lst 0 true [])]) []⟩,
  ⟨some 3, none, .op .id [.val (.t (.int .i64 0))]⟩]
abbrev message_DecodeCommand.r1 : List Ins := [⟨some 7, none, .op .id [.tmp 0]⟩,
  ⟨some 8, none, .op (.build [(.lst 0 true []), (.int .i64 0), (.bool false)] [(0, 1)]) [.tmp 7]⟩,
  ⟨some 9, none, .op .box [.tmp 8]⟩,
  ⟨some 4, none, .op .id [.tmp 9]⟩]
abbrev message_DecodeCommand.r2 : List Ins := [⟨some 10, none, .op .id [.tmp 4]⟩,
  ⟨some 11, none, .call N.message_reader_exactly [.tmp 10, .val (.t (.int .i64 4))]⟩,
  ⟨some 5, none, .op .id [.tmp 11]⟩]
abbrev message_DecodeCommand.d0 : Plan := (.val ⟨some 12, none, .op .id [.tmp 5]⟩
  (.val ⟨some 13, none, .op (.idxS 1) [.tmp 12, .val (.t (.int .i64 0))]⟩
  (.val ⟨some 14, none, .op .load1 [.tmp 13]⟩
  (.val ⟨some 15, none, .op .id [.tmp 5]⟩
  (.val ⟨some 16, none, .op (.idxS 1) [.tmp 15, .val (.t (.int .i64 1))]⟩
  (.val ⟨some 17, none, .op .load1 [.tmp 16]⟩
  (.val ⟨some 18, none, .op .id [.tmp 5]⟩
  (.val ⟨some 19, none, .op (.idxS 1) [.tmp 18, .val (.t (.int .i64 2))]⟩
  (.val ⟨some 20, none, .op .load1 [.tmp 19]⟩
  (.val ⟨some 21, none, .op .id [.tmp 5]⟩
  (.val ⟨some 22, none, .op (.idxS 1) [.tmp 21, .val (.t (.int .i64 3))]⟩
  (.val ⟨some 23, none, .op .load1 [.tmp 22]⟩
  (.val ⟨some 24, none, .op .id [.tmp 4]⟩
  (.alt (.eff ⟨some 25, none, .call N.message_reader_ints [.tmp 24, .val (.t (.int .i64 128))]⟩ [⟨some 13, none, .op (.idxS 1) [.tmp 12, .val (.t (.int .i64 0))]⟩, ⟨some 14, none, .op .load1 [.tmp 13]⟩, ⟨some 16, none, .op (.idxS 1) [.tmp 15, .val (.t (.int .i64 1))]⟩, ⟨some 17, none, .op .load1 [.tmp 16]⟩, ⟨some 19, none, .op (.idxS 1) [.tmp 18, .val (.t (.int .i64 2))]⟩, ⟨some 20, none, .op .load1 [.tmp 19]⟩, ⟨some 22, none, .op (.idxS 1) [.tmp 21, .val (.t (.int .i64 3))]⟩, ⟨some 23, none, .op .load1 [.tmp 22]⟩]
  (.val ⟨some 26, none, .op (.build [(.int .i64 0), (.int .i64 0), (.int .i64 0), (.int .i64 0), (.lst 0 true [])] [(0, 1), (1, 1), (2, 1), (3, 1), (4, 1)]) [.tmp 14, .tmp 17, .tmp 20, .tmp 23, .tmp 25]⟩
  (.eff ⟨some 6, none, .op (.alloc [(.int .i64 0), (.int .i64 0), (.int .i64 0), (.int .i64 0), (.lst 0 true [])]) []⟩ [⟨some 13, none, .op (.idxS 1) [.tmp 12, .val (.t (.int .i64 0))]⟩, ⟨some 14, none, .op .load1 [.tmp 13]⟩, ⟨some 16, none, .op (.idxS 1) [.tmp 15, .val (.t (.int .i64 1))]⟩, ⟨some 17, none, .op .load1 [.tmp 16]⟩, ⟨some 19, none, .op (.idxS 1) [.tmp 18, .val (.t (.int .i64 2))]⟩, ⟨some 20, none, .op .load1 [.tmp 19]⟩, ⟨some 22, none, .op (.idxS 1) [.tmp 21, .val (.t (.int .i64 3))]⟩, ⟨some 23, none, .op .load1 [.tmp 22]⟩]
  (.eff ⟨none, none, .op (.store 5) [.tmp 6, .tmp 26]⟩ []
  .fin))))
  (.eff ⟨some 6, none, .op (.alloc [(.int .i64 0), (.int .i64 0), (.int .i64 0), (.int .i64 0), (.lst 0 true [])]) []⟩ [⟨some 13, none, .op (.idxS 1) [.tmp 12, .val (.t (.int .i64 0))]⟩, ⟨some 14, none, .op .load1 [.tmp 13]⟩, ⟨some 16, none, .op (.idxS 1) [.tmp 15, .val (.t (.int .i64 1))]⟩, ⟨some 17, none, .op .load1 [.tmp 16]⟩, ⟨some 19, none, .op (.idxS 1) [.tmp 18, .val (.t (.int .i64 2))]⟩, ⟨some 20, none, .op .load1 [.tmp 19]⟩, ⟨some 22, none, .op (.idxS 1) [.tmp 21, .val (.t (.int .i64 3))]⟩, ⟨some 23, none, .op .load1 [.tmp 22]⟩]
  (.eff ⟨some 25, none, .call N.message_reader_ints [.tmp 24, .val (.t (.int .i64 128))]⟩ [⟨some 13, none, .op (.idxS 1) [.tmp 12, .val (.t (.int .i64 0))]⟩, ⟨some 14, none, .op .load1 [.tmp 13]⟩, ⟨some 16, none, .op (.idxS 1) [.tmp 15, .val (.t (.int .i64 1))]⟩, ⟨some 17, none, .op .load1 [.tmp 16]⟩, ⟨some 19, none, .op (.idxS 1) [.tmp 18, .val (.t (.int .i64 2))]⟩, ⟨some 20, none, .op .load1 [.tmp 19]⟩, ⟨some 22, none, .op (.idxS 1) [.tmp 21, .val (.t (.int .i64 3))]⟩, ⟨some 23, none, .op .load1 [.tmp 22]⟩]
  (.val ⟨some 26, none, .op (.build [(.int .i64 0), (.int .i64 0), (.int .i64 0), (.int .i64 0), (.lst 0 true [])] [(0, 1), (1, 1), (2, 1), (3, 1), (4, 1)]) [.tmp 14, .tmp 17, .tmp 20, .tmp 23, .tmp 25]⟩
  (.eff ⟨none, none, .op (.store 5) [.tmp 6, .tmp 26]⟩ []
  .fin))))))))))))))))))
abbrev message_DecodeCommand.r3 : List Ins := [⟨some 27, none, .op .id [.tmp 4]⟩,
  ⟨some 28, none, .call N.message_reader_done [.tmp 27]⟩,
  ⟨some 29, none, .op (.un .not) [.tmp 28]⟩]
abbrev message_DecodeCommand.r4 : List Ins := [⟨some 30, none, .op (.build [(.int .i64 0), (.int .i64 0), (.int .i64 0), (.int .i64 0), (.lst 0 true [])] []) []⟩,
  ⟨none, none, .op (.store 5) [.tmp 2, .tmp 30]⟩,
  ⟨some 3, none, .op .id [.val (.t (.int .i64 4))]⟩]
abbrev message_DecodeCommand.r5 : List Ins := [⟨some 31, none, .op (.loadN 5) [.tmp 6]⟩,
  ⟨none, none, .op (.store 5) [.tmp 2, .tmp 31]⟩,
  ⟨some 3, none, .op .id [.val (.t (.int .i64 0))]⟩]
abbrev message_DecodeCommand.body : Cd := (.seq (.rgn message_DecodeCommand.r0) (.seq (.rgn message_DecodeCommand.r1) (.seq (.rgn message_DecodeCommand.r2) (.seq (.rgnD message_DecodeCommand.d0) (.seq (.seq (.rgn message_DecodeCommand.r3) (.cond (.tmp 29) (.seq (.rgn message_DecodeCommand.r4) .ret) .skip)) (.seq (.rgn message_DecodeCommand.r5) .ret))))))
def message_DecodeCommand.af : AF := ⟨1, 32, [.cell 2 5 false, .tmp 3], message_DecodeCommand.body⟩
theorem message_DecodeCommand.ok : cFunc PP [] Try.f36 = some message_DecodeCommand.af := by kernel_rfl
theorem message_DecodeCommand.intro {args : List V} {H : Heap} {Q : V → Heap → Prop} (hlen : args.length ≤ 32) (h : wpC (SCall PP) H.length message_DecodeCommand.body (exitK H.length [.cell 2 5 false, .tmp 3] Q) ⟨initVs 0 args, H⟩) : SCall PP N.message_DecodeCommand args H Q :=
  SCall.intro Try.func36 (by kernel_rfl) message_DecodeCommand.ok hlen h
/-! ### debugger/message.EncodeReply -/
/-! ### debugger/message.DecodeReply -/
abbrev message_DecodeReply.r0 : List Ins := [⟨some 2, none, .op (.alloc [(.int .i64 0), (.lst 0 true []), (.lst 0 true []), (.lst 0 true []), (.int .i64 0), (.int .i64 0), (.int .i64 0), (.int .i64 0), (.int .i64 0), (.int .i64 0), (.int .i64 0)]) []⟩,
  ⟨some 3, none, .op .id [.val (.t (.int .i64 0))]⟩]
abbrev message_DecodeReply.r1 : List Ins := [⟨some 11, none, .op .id [.tmp 0]⟩,
  ⟨some 12, none, .op (.build [(.lst 0 true []), (.int .i64 0), (.bool false)] [(0, 1)]) [.tmp 11]⟩,
  ⟨some 13, none, .op .box [.tmp 12]⟩,
  ⟨some 4, none, .op .id [.tmp 13]⟩]
abbrev message_DecodeReply.r2 : List Ins := [⟨some 14, none, .op .id [.tmp 4]⟩,
  ⟨some 15, none, .call N.message_reader_number [.tmp 14, .val (.fn N.wire_Int [])]⟩,
  ⟨some 16, none, .op .id [.tmp 4]⟩,
  ⟨some 17, none, .call N.message_reader_ints [.tmp 16, .val (.t (.int .i64 128))]⟩,
  ⟨some 18, none, .op (.build [(.int .i64 0), (.lst 0 true []), (.lst 0 true []), (.lst 0 true []), (.int .i64 0), (.int .i64 0), (.int .i64 0), (.int .i64 0), (.int .i64 0), (.int .i64 0), (.int .i64 0)] [(0, 1), (1, 1)]) [.tmp 15, .tmp 17]⟩,
  ⟨some 5, none, .op (.alloc [(.int .i64 0), (.lst 0 true []), (.lst 0 true []), (.lst 0 true []), (.int .i64 0), (.int .i64 0), (.int .i64 0), (.int .i64 0), (.int .i64 0), (.int .i64 0), (.int .i64 0)]) []⟩,
  ⟨none, none, .op (.store 11) [.tmp 5, .tmp 18]⟩]
abbrev message_DecodeReply.r3 : List Ins := [⟨some 19, none, .op .id [.tmp 4]⟩,
  ⟨some 20, none, .call N.message_reader_number [.tmp 19, .val (.fn N.wire_Uint [])]⟩,
  ⟨some 6, none, .op .id [.tmp 20]⟩]
abbrev message_DecodeReply.r4 : List Ins := [⟨some 21, none, .op .id [.tmp 6]⟩,
  ⟨some 22, none, .op (.bin .gtr) [.tmp 21, .val (.t (.int .i64 8))]⟩]
abbrev message_DecodeReply.r5 : List Ins := [⟨some 23, none, .op .id [.tmp 4]⟩,
  ⟨some 24, none, .op .nilck [.tmp 23]⟩,
  ⟨some 25, none, .op (.fieldA 2) [.tmp 24]⟩,
  ⟨none, none, .op (.store 1) [.tmp 25, .val (.t (.bool true))]⟩]
abbrev message_DecodeReply.r6 : List Ins := [⟨some 7, none, .op .id [.val (.t (.int .i64 0))]⟩]
abbrev message_DecodeReply.r7 : List Ins := [⟨some 26, none, .op .id [.tmp 7]⟩,
  ⟨some 27, none, .op .id [.tmp 6]⟩,
  ⟨some 28, none, .op (.bin .lss) [.tmp 26, .tmp 27]⟩,
  ⟨some 29, none, .op .id [.tmp 28]⟩,
  ⟨some 30, some (29, true), .op .id [.tmp 4]⟩,
  ⟨some 31, some (29, true), .op .nilck [.tmp 30]⟩,
  ⟨some 32, some (29, true), .op (.fieldA 2) [.tmp 31]⟩,
  ⟨some 33, some (29, true), .op .load1 [.tmp 32]⟩,
  ⟨some 34, some (29, true), .op (.un .not) [.tmp 33]⟩,
  ⟨some 35, none, .op .pick [.tmp 29, .tmp 34, .val (.t (.bool false))]⟩]
abbrev message_DecodeReply.d0 : Plan := (.val ⟨some 38, none, .op (.fieldA 2) [.tmp 5]⟩
  (.val ⟨some 39, none, .op .load1 [.tmp 38]⟩
  (.val ⟨some 40, none, .op .id [.tmp 4]⟩
  (.eff ⟨some 41, none, .call N.message_reader_thread [.tmp 40]⟩ [⟨some 39, none, .op .load1 [.tmp 38]⟩]
  (.eff ⟨some 42, none, .op (.buildSlice 20 (.agg [(.int .i64 0), (.int .i64 0), (.int .i64 0), (.int .i64 0), (.int .i64 0), (.int .i64 0), (.int .i64 0), (.int .i64 0), (.int .i64 0), (.int .i64 0), (.int .i64 0), (.int .i64 0), (.int .i64 0), (.int .i64 0), (.int .i64 0), (.int .i64 0), (.int .i64 0), (.int .i64 0), (.int .i64 0), (.lst 0 true [])]) 1 [0]) [.tmp 41]⟩ [⟨some 39, none, .op .load1 [.tmp 38]⟩]
  (.eff ⟨some 43, none, .op (.append 20 176) [.tmp 39, .tmp 42]⟩ []
  (.val ⟨some 44, none, .op (.fieldA 2) [.tmp 5]⟩
  (.eff ⟨none, none, .op (.store 1) [.tmp 44, .tmp 43]⟩ []
  .fin))))))))
abbrev message_DecodeReply.r8 : List Ins := [⟨some 36, none, .op .id [.tmp 7]⟩,
  ⟨some 37, none, .op (.bin .add) [.tmp 36, .val (.t (.int .i64 1))]⟩,
  ⟨some 7, none, .op .id [.tmp 37]⟩]
abbrev message_DecodeReply.l0 : Cd := (.seq (.seq (.rgn message_DecodeReply.r7) (.cond (.tmp 35) .skip (.exit 0))) (.seq (.block 1 (.rgnD message_DecodeReply.d0)) (.rgn message_DecodeReply.r8)))
abbrev message_DecodeReply.r9 : List Ins := [⟨some 45, none, .op .id [.tmp 4]⟩,
  ⟨some 46, none, .call N.message_reader_ints [.tmp 45, .val (.t (.int .i64 256))]⟩,
  ⟨some 8, none, .op .id [.tmp 46]⟩]
abbrev message_DecodeReply.r10 : List Ins := [⟨some 47, none, .op .id [.tmp 8]⟩,
  ⟨some 48, none, .op .len [.tmp 47]⟩,
  ⟨some 49, none, .op (.bin .rem) [.tmp 48, .val (.t (.int .i64 2))]⟩,
  ⟨some 50, none, .op (.bin .neq) [.tmp 49, .val (.t (.int .i64 0))]⟩]
abbrev message_DecodeReply.r11 : List Ins := [⟨some 51, none, .op .id [.tmp 4]⟩,
  ⟨some 52, none, .op .nilck [.tmp 51]⟩,
  ⟨some 53, none, .op (.fieldA 2) [.tmp 52]⟩,
  ⟨none, none, .op (.store 1) [.tmp 53, .val (.t (.bool true))]⟩]
abbrev message_DecodeReply.r12 : List Ins := [⟨some 9, none, .op .id [.val (.t (.int .i64 0))]⟩]
abbrev message_DecodeReply.r13 : List Ins := [⟨some 54, none, .op .id [.tmp 9]⟩,
  ⟨some 55, none, .op (.bin .add) [.tmp 54, .val (.t (.int .i64 1))]⟩,
  ⟨some 56, none, .op .id [.tmp 8]⟩,
  ⟨some 57, none, .op .len [.tmp 56]⟩,
  ⟨some 58, none, .op (.bin .lss) [.tmp 55, .tmp 57]⟩]
abbrev message_DecodeReply.d1 : Plan := (.val ⟨some 61, none, .op (.fieldA 3) [.tmp 5]⟩
  (.val ⟨some 62, none, .op .load1 [.tmp 61]⟩
  (.val ⟨some 63, none, .op .id [.tmp 8]⟩
  (.val ⟨some 64, none, .op .id [.tmp 9]⟩
  (.val ⟨some 65, none, .op (.idxS 1) [.tmp 63, .tmp 64]⟩
  (.val ⟨some 66, none, .op .load1 [.tmp 65]⟩
  (.val ⟨some 67, none, .op .id [.tmp 8]⟩
  (.val ⟨some 68, none, .op .id [.tmp 9]⟩
  (.val ⟨some 69, none, .op (.bin .add) [.tmp 68, .val (.t (.int .i64 1))]⟩
  (.val ⟨some 70, none, .op (.idxS 1) [.tmp 67, .tmp 69]⟩
  (.val ⟨some 71, none, .op .load1 [.tmp 70]⟩
  (.val ⟨some 72, none, .op (.build [(.int .i64 0), (.int .i64 0)] [(0, 1), (1, 1)]) [.tmp 66, .tmp 71]⟩
  (.eff ⟨some 73, none, .op (.buildSlice 2 (.agg [(.int .i64 0), (.int .i64 0)]) 1 [0]) [.tmp 72]⟩ [⟨some 62, none, .op .load1 [.tmp 61]⟩]
  (.eff ⟨some 74, none, .op (.append 2 16) [.tmp 62, .tmp 73]⟩ []
  (.val ⟨some 75, none, .op (.fieldA 3) [.tmp 5]⟩
  (.eff ⟨none, none, .op (.store 1) [.tmp 75, .tmp 74]⟩ []
  .fin))))))))))))))))
abbrev message_DecodeReply.r14 : List Ins := [⟨some 59, none, .op .id [.tmp 9]⟩,
  ⟨some 60, none, .op (.bin .add) [.tmp 59, .val (.t (.int .i64 2))]⟩,
  ⟨some 9, none, .op .id [.tmp 60]⟩]
abbrev message_DecodeReply.l1 : Cd := (.seq (.seq (.rgn message_DecodeReply.r13) (.cond (.tmp 58) .skip (.exit 2))) (.seq (.block 3 (.rgnD message_DecodeReply.d1)) (.rgn message_DecodeReply.r14)))
abbrev message_DecodeReply.r15 : List Ins := [⟨some 76, none, .op .id [.tmp 4]⟩,
  ⟨some 77, none, .call N.message_reader_exactly [.tmp 76, .val (.t (.int .i64 7))]⟩,
  ⟨some 10, none, .op .id [.tmp 77]⟩]
abbrev message_DecodeReply.d2 : Plan := (.val ⟨some 78, none, .op .id [.tmp 10]⟩
  (.val ⟨some 79, none, .op (.idxS 1) [.tmp 78, .val (.t (.int .i64 0))]⟩
  (.val ⟨some 80, none, .op .load1 [.tmp 79]⟩
  (.val ⟨some 81, none, .op .id [.tmp 10]⟩
  (.val ⟨some 82, none, .op (.idxS 1) [.tmp 81, .val (.t (.int .i64 1))]⟩
  (.val ⟨some 83, none, .op .load1 [.tmp 82]⟩
  (.val ⟨some 84, none, .op .id [.tmp 10]⟩
  (.val ⟨some 85, none, .op (.idxS 1) [.tmp 84, .val (.t (.int .i64 2))]⟩
  (.val ⟨some 86, none, .op .load1 [.tmp 85]⟩
  (.val ⟨some 87, none, .op .id [.tmp 10]⟩
  (.val ⟨some 88, none, .op (.idxS 1) [.tmp 87, .val (.t (.int .i64 3))]⟩
  (.val ⟨some 89, none, .op .load1 [.tmp 88]⟩
  (.val ⟨some 90, none, .op .id [.tmp 10]⟩
  (.val ⟨some 91, none, .op (.idxS 1) [.tmp 90, .val (.t (.int .i64 4))]⟩
  (.val ⟨some 92, none, .op .load1 [.tmp 91]⟩
  (.val ⟨some 93, none, .op .id [.tmp 10]⟩
  (.val ⟨some 94, none, .op (.idxS 1) [.tmp 93, .val (.t (.int .i64 5))]⟩
  (.val ⟨some 95, none, .op .load1 [.tmp 94]⟩
  (.val ⟨some 96, none, .op .id [.tmp 10]⟩
  (.val ⟨some 97, none, .op (.idxS 1) [.tmp 96, .val (.t (.int .i64 6))]⟩
  (.val ⟨some 98, none, .op .load1 [.tmp 97]⟩
  (.val ⟨some 99, none, .op (.build [(.int .i64 0), (.int .i64 0), (.int .i64 0), (.int .i64 0), (.int .i64 0), (.int .i64 0), (.int .i64 0)] [(0, 1), (1, 1), (2, 1), (3, 1), (4, 1), (5, 1), (6, 1)]) [.tmp 80, .tmp 83, .tmp 86, .tmp 89, .tmp 92, .tmp 95, .tmp 98]⟩
  (.val ⟨some 100, none, .op (.fieldA 4) [.tmp 5]⟩
  (.eff ⟨none, none, .op (.store 7) [.tmp 100, .tmp 99]⟩ []
  .fin))))))))))))))))))))))))
abbrev message_DecodeReply.r16 : List Ins := [⟨some 101, none, .op .id [.tmp 4]⟩,
  ⟨some 102, none, .call N.message_reader_done [.tmp 101]⟩,
  ⟨some 103, none, .op (.un .not) [.tmp 102]⟩]
abbrev message_DecodeReply.r17 : List Ins := [⟨some 104, none, .op (.build [(.int .i64 0), (.lst 0 true []), (.lst 0 true []), (.lst 0 true []), (.int .i64 0), (.int .i64 0), (.int .i64 0), (.int .i64 0), (.int .i64 0), (.int .i64 0), (.int .i64 0)] []) []⟩,
  ⟨none, none, .op (.store 11) [.tmp 2, .tmp 104]⟩,
  ⟨some 3, none, .op .id [.val (.t (.int .i64 4))]⟩]
abbrev message_DecodeReply.r18 : List Ins := [⟨some 105, none, .op (.loadN 11) [.tmp 5]⟩,
  ⟨none, none, .op (.store 11) [.tmp 2, .tmp 105]⟩,
  ⟨some 3, none, .op .id [.val (.t (.int .i64 0))]⟩]
abbrev message_DecodeReply.body : Cd := (.seq (.rgn message_DecodeReply.r0) (.seq (.rgn message_DecodeReply.r1) (.seq (.rgn message_DecodeReply.r2) (.seq (.rgn message_DecodeReply.r3) (.seq (.seq (.rgn message_DecodeReply.r4) (.cond (.tmp 22) (.rgn message_DecodeReply.r5) .skip)) (.seq (.seq (.rgn message_DecodeReply.r6) (.block 0 (.loop message_DecodeReply.l0))) (.seq (.rgn message_DecodeReply.r9) (.seq (.seq (.rgn message_DecodeReply.r10) (.cond (.tmp 50) (.rgn message_DecodeReply.r11) .skip)) (.seq (.seq (.rgn message_DecodeReply.r12) (.block 2 (.loop message_DecodeReply.l1))) (.seq (.rgn message_DecodeReply.r15) (.seq (.rgnD message_DecodeReply.d2) (.seq (.seq (.rgn message_DecodeReply.r16) (.cond (.tmp 103) (.seq (.rgn message_DecodeReply.r17) .ret) .skip)) (.seq (.rgn message_DecodeReply.r18) .ret)))))))))))))
def message_DecodeReply.af : AF := ⟨1, 106, [.cell 2 11 false, .tmp 3], message_DecodeReply.body⟩
theorem message_DecodeReply.ok : cFunc PP [] Try.f51 = some message_DecodeReply.af := by kernel_rfl
theorem message_DecodeReply.intro {args : List V} {H : Heap} {Q : V → Heap → Prop} (hlen : args.length ≤ 106) (h : wpC (SCall PP) H.length message_DecodeReply.body (exitK H.length [.cell 2 11 false, .tmp 3] Q) ⟨initVs 0 args, H⟩) : SCall PP N.message_DecodeReply args H Q :=
  SCall.intro Try.func51 (by kernel_rfl) message_DecodeReply.ok hlen h
/-! ### debugger/message.appendInts -/
abbrev message_appendInts.r0 : List Ins := [⟨some 4, none, .op .id [.val (.t (.lst 0 true []))]⟩]
abbrev message_appendInts.r1 : List Ins := [⟨some 7, none, .op .id [.tmp 0]⟩,
  ⟨some 8, none, .op .id [.tmp 1]⟩,
  ⟨some 9, none, .op .len [.tmp 8]⟩,
  ⟨some 10, none, .call N.wire_AppendUint [.val (.t (.lst 0 true [])), .tmp 9]⟩,
  ⟨some 11, none, .op (.append 1 1) [.tmp 7, .tmp 10]⟩,
  ⟨some 0, none, .op .id [.tmp 11]⟩]
abbrev message_appendInts.r2 : List Ins := [⟨some 12, none, .op .id [.tmp 1]⟩,
  ⟨some 13, none, .op .len [.tmp 12]⟩,
  ⟨some 14, none, .op .id [.val (.t (.int .i64 0))]⟩]
abbrev message_appendInts.r3 : List Ins := [⟨some 15, none, .op (.bin .lss) [.tmp 14, .tmp 13]⟩]
abbrev message_appendInts.r4 : List Ins := [⟨some 16, none, .op (.idxS 1) [.tmp 12, .tmp 14]⟩,
  ⟨some 17, none, .op .load1 [.tmp 16]⟩,
  ⟨some 6, none, .op .id [.tmp 17]⟩]
abbrev message_appendInts.r5 : List Ins := [⟨some 18, none, .op .id [.tmp 0]⟩,
  ⟨some 19, none, .op .id [.tmp 6]⟩,
  ⟨some 20, none, .call N.wire_AppendInt [.val (.t (.lst 0 true [])), .tmp 19]⟩,
  ⟨some 21, none, .op (.append 1 1) [.tmp 18, .tmp 20]⟩,
  ⟨some 0, none, .op .id [.tmp 21]⟩]
abbrev message_appendInts.r6 : List Ins := [⟨some 22, none, .op (.bin .add) [.tmp 14, .val (.t (.int .i64 1))]⟩,
  ⟨some 14, none, .op .id [.tmp 22]⟩]
abbrev message_appendInts.l0 : Cd := (.seq (.rgn message_appendInts.r3) (.seq (.cond (.tmp 15) .skip (.exit 0)) (.seq (.block 1 (.seq (.rgn message_appendInts.r4) (.rgn message_appendInts.r5))) (.rgn message_appendInts.r6))))
abbrev message_appendInts.r7 : List Ins := [⟨some 23, none, .op .id [.tmp 0]⟩,
  ⟨some 4, none, .op .id [.tmp 23]⟩]
abbrev message_appendInts.body : Cd := (.seq (.rgn message_appendInts.r0) (.seq (.rgn message_appendInts.r1) (.seq (.seq (.rgn message_appendInts.r2) (.block 0 (.loop message_appendInts.l0))) (.seq (.rgn message_appendInts.r7) .ret))))
def message_appendInts.af : AF := ⟨2, 24, [.tmp 4], message_appendInts.body⟩
theorem message_appendInts.ok : cFunc PP [] Try.f62 = some message_appendInts.af := by kernel_rfl
theorem message_appendInts.intro {args : List V} {H : Heap} {Q : V → Heap → Prop} (hlen : args.length ≤ 24) (h : wpC (SCall PP) H.length message_appendInts.body (exitK H.length [.tmp 4] Q) ⟨initVs 0 args, H⟩) : SCall PP N.message_appendInts args H Q :=
  SCall.intro Try.func62 (by kernel_rfl) message_appendInts.ok hlen h
/-! ### (*debugger/message.reader).exactly -/
abbrev message_reader_exactly.r0 : List Ins := [⟨some 4, none, .op .id [.val (.t (.lst 0 true []))]⟩]
abbrev message_reader_exactly.r1 : List Ins := [⟨some 6, none, .op .id [.tmp 0]⟩,
  ⟨some 7, none, .op .id [.tmp 1]⟩,
  ⟨some 8, none, .call N.message_reader_ints [.tmp 6, .tmp 7]⟩,
  ⟨some 5, none, .op .id [.tmp 8]⟩]
abbrev message_reader_exactly.r2 : List Ins := [⟨some 9, none, .op .id [.tmp 5]⟩,
  ⟨some 10, none, .op .len [.tmp 9]⟩,
  ⟨some 11, none, .op .id [.tmp 1]⟩,
  ⟨some 12, none, .op (.bin .neq) [.tmp 10, .tmp 11]⟩]
abbrev message_reader_exactly.r3 : List Ins := [⟨some 13, none, .op .id [.tmp 0]⟩,
  ⟨some 14, none, .op .nilck [.tmp 13]⟩,
  ⟨some 15, none, .op (.fieldA 2) [.tmp 14]⟩,
  ⟨none, none, .op (.store 1) [.tmp 15, .val (.t (.bool true))]⟩]
abbrev message_reader_exactly.r4 : List Ins := [⟨some 16, none, .op .id [.tmp 1]⟩,
  ⟨some 17, none, .op (.makeSlice 1 8 (.int .i64 0)) [.tmp 16, .tmp 16]⟩,
  ⟨some 4, none, .op .id [.tmp 17]⟩]
abbrev message_reader_exactly.r5 : List Ins := [⟨some 18, none, .op .id [.tmp 5]⟩,
  ⟨some 4, none, .op .id [.tmp 18]⟩]
abbrev message_reader_exactly.body : Cd := (.seq (.rgn message_reader_exactly.r0) (.seq (.rgn message_reader_exactly.r1) (.seq (.seq (.rgn message_reader_exactly.r2) (.cond (.tmp 12) (.seq (.rgn message_reader_exactly.r3) (.seq (.rgn message_reader_exactly.r4) .ret)) .skip)) (.seq (.rgn message_reader_exactly.r5) .ret))))
def message_reader_exactly.af : AF := ⟨2, 19, [.tmp 4], message_reader_exactly.body⟩
theorem message_reader_exactly.ok : cFunc PP [] Try.f64 = some message_reader_exactly.af := by kernel_rfl
theorem message_reader_exactly.intro {args : List V} {H : Heap} {Q : V → Heap → Prop} (hlen : args.length ≤ 19) (h : wpC (SCall PP) H.length message_reader_exactly.body (exitK H.length [.tmp 4] Q) ⟨initVs 0 args, H⟩) : SCall PP N.message_reader_exactly args H Q :=
  SCall.intro Try.func64 (by kernel_rfl) message_reader_exactly.ok hlen h
/-! ### (*debugger/message.reader).ints -/
abbrev message_reader_ints.r0 : List Ins := [⟨some 4, none, .op .id [.val (.t (.lst 0 true []))]⟩]
abbrev message_reader_ints.r1 : List Ins := [⟨some 8, none, .op .id [.tmp 0]⟩,
  ⟨some 9, none, .call N.message_reader_number [.tmp 8, .val (.fn N.wire_Uint [])]⟩,
  ⟨some 5, none, .op .id [.tmp 9]⟩]
abbrev message_reader_ints.r2 : List Ins := [⟨some 10, none, .op .id [.tmp 5]⟩,
  ⟨some 11, none, .op .id [.tmp 1]⟩,
  ⟨some 12, none, .op (.bin .gtr) [.tmp 10, .tmp 11]⟩]
abbrev message_reader_ints.r3 : List Ins := [⟨some 13, none, .op .id [.tmp 0]⟩,
  ⟨some 14, none, .op .nilck [.tmp 13]⟩,
  ⟨some 15, none, .op (.fieldA 2) [.tmp 14]⟩,
  ⟨none, none, .op (.store 1) [.tmp 15, .val (.t (.bool true))]⟩]
abbrev message_reader_ints.r4 : List Ins := [⟨some 6, none, .op .id [.val (.t (.lst 0 true []))]⟩]
abbrev message_reader_ints.r5 : List Ins := [⟨some 7, none, .op .id [.val (.t (.int .i64 0))]⟩]
abbrev message_reader_ints.r6 : List Ins := [⟨some 16, none, .op .id [.tmp 7]⟩,
  ⟨some 17, none, .op .id [.tmp 5]⟩,
  ⟨some 18, none, .op (.bin .lss) [.tmp 16, .tmp 17]⟩,
  ⟨some 19, none, .op .id [.tmp 18]⟩,
  ⟨some 20, some (19, true), .op .id [.tmp 0]⟩,
  ⟨some 21, some (19, true), .op .nilck [.tmp 20]⟩,
  ⟨some 22, some (19, true), .op (.fieldA 2) [.tmp 21]⟩,
  ⟨some 23, some (19, true), .op .load1 [.tmp 22]⟩,
  ⟨some 24, some (19, true), .op (.un .not) [.tmp 23]⟩,
  ⟨some 25, none, .op .pick [.tmp 19, .tmp 24, .val (.t (.bool false))]⟩]
abbrev message_reader_ints.r7 : List Ins := [⟨some 28, none, .op .id [.tmp 6]⟩,
  ⟨some 29, none, .op .id [.tmp 0]⟩,
  ⟨some 30, none, .call N.message_reader_number [.tmp 29, .val (.fn N.wire_Int [])]⟩,
  ⟨some 31, none, .op (.buildSlice 1 (.int .i64 0) 1 [0]) [.tmp 30]⟩,
  ⟨some 32, none, .op (.append 1 8) [.tmp 28, .tmp 31]⟩,
  ⟨some 6, none, .op .id [.tmp 32]⟩]
abbrev message_reader_ints.r8 : List Ins := [⟨some 26, none, .op .id [.tmp 7]⟩,
  ⟨some 27, none, .op (.bin .add) [.tmp 26, .val (.t (.int .i64 1))]⟩,
  ⟨some 7, none, .op .id [.tmp 27]⟩]
abbrev message_reader_ints.l0 : Cd := (.seq (.seq (.rgn message_reader_ints.r6) (.cond (.tmp 25) .skip (.exit 0))) (.seq (.block 1 (.rgn message_reader_ints.r7)) (.rgn message_reader_ints.r8)))
abbrev message_reader_ints.r9 : List Ins := [⟨some 33, none, .op .id [.tmp 6]⟩,
  ⟨some 4, none, .op .id [.tmp 33]⟩]
abbrev message_reader_ints.body : Cd := (.seq (.rgn message_reader_ints.r0) (.seq (.rgn message_reader_ints.r1) (.seq (.seq (.rgn message_reader_ints.r2) (.cond (.tmp 12) (.rgn message_reader_ints.r3) .skip)) (.seq (.rgn message_reader_ints.r4) (.seq (.seq (.rgn message_reader_ints.r5) (.block 0 (.loop message_reader_ints.l0))) (.seq (.rgn message_reader_ints.r9) .ret))))))
def message_reader_ints.af : AF := ⟨2, 34, [.tmp 4], message_reader_ints.body⟩
theorem message_reader_ints.ok : cFunc PP [] Try.f65 = some message_reader_ints.af := by kernel_rfl
theorem message_reader_ints.intro {args : List V} {H : Heap} {Q : V → Heap → Prop} (hlen : args.length ≤ 34) (h : wpC (SCall PP) H.length message_reader_ints.body (exitK H.length [.tmp 4] Q) ⟨initVs 0 args, H⟩) : SCall PP N.message_reader_ints args H Q :=
  SCall.intro Try.func65 (by kernel_rfl) message_reader_ints.ok hlen h
/-! ### (*debugger/message.reader).done -/
abbrev message_reader_done.r0 : List Ins := [⟨some 2, none, .op .id [.val (.t (.bool false))]⟩]
abbrev message_reader_done.d0 : Plan := (.val ⟨some 3, none, .op .id [.tmp 0]⟩
  (.val ⟨some 4, none, .op .nilck [.tmp 3]⟩
  (.val ⟨some 5, none, .op (.fieldA 2) [.tmp 4]⟩
  (.val ⟨some 6, none, .op .load1 [.tmp 5]⟩
  (.val ⟨some 7, none, .op (.un .not) [.tmp 6]⟩
  (.val ⟨some 8, none, .op .id [.tmp 7]⟩
  (.val ⟨some 9, some (8, true), .op .id [.tmp 0]⟩
  (.val ⟨some 10, some (8, true), .op .nilck [.tmp 9]⟩
  (.val ⟨some 11, some (8, true), .op (.fieldA 1) [.tmp 10]⟩
  (.val ⟨some 12, some (8, true), .op .load1 [.tmp 11]⟩
  (.val ⟨some 13, some (8, true), .op .id [.tmp 0]⟩
  (.val ⟨some 14, some (8, true), .op .nilck [.tmp 13]⟩
  (.val ⟨some 15, some (8, true), .op (.fieldA 0) [.tmp 14]⟩
  (.val ⟨some 16, some (8, true), .op .load1 [.tmp 15]⟩
  (.val ⟨some 17, some (8, true), .op .len [.tmp 16]⟩
  (.val ⟨some 18, some (8, true), .op (.bin .eql) [.tmp 12, .tmp 17]⟩
  (.val ⟨some 19, none, .op .pick [.tmp 8, .tmp 18, .val (.t (.bool false))]⟩
  (.val ⟨some 2, none, .op .id [.tmp 19]⟩
  .fin))))))))))))))))))
abbrev message_reader_done.body : Cd := (.seq (.rgn message_reader_done.r0) (.seq (.rgnD message_reader_done.d0) .ret))
def message_reader_done.af : AF := ⟨1, 20, [.tmp 2], message_reader_done.body⟩
theorem message_reader_done.ok : cFunc PP [] Try.f66 = some message_reader_done.af := by kernel_rfl
theorem message_reader_done.intro {args : List V} {H : Heap} {Q : V → Heap → Prop} (hlen : args.length ≤ 20) (h : wpC (SCall PP) H.length message_reader_done.body (exitK H.length [.tmp 2] Q) ⟨initVs 0 args, H⟩) : SCall PP N.message_reader_done args H Q :=
  SCall.intro Try.func66 (by kernel_rfl) message_reader_done.ok hlen h
/-! ### debugger/message.appendThread -/
/-! ### (*debugger/message.reader).number -/
abbrev message_reader_number.r0 : List Ins := [⟨some 4, none, .op .id [.val (.t (.int .i64 0))]⟩]
abbrev message_reader_number.r1 : List Ins := [⟨some 8, none, .op .id [.tmp 0]⟩,
  ⟨some 9, none, .op .nilck [.tmp 8]⟩,
  ⟨some 10, none, .op (.fieldA 2) [.tmp 9]⟩,
  ⟨some 11, none, .op .load1 [.tmp 10]⟩]
abbrev message_reader_number.r2 : List Ins := [⟨some 4, none, .op .id [.val (.t (.int .i64 0))]⟩]
abbrev message_reader_number.d0 : Plan := (.val ⟨some 13, none, .op .id [.tmp 1]⟩
  (.val ⟨some 14, none, .op .id [.tmp 0]⟩
  (.val ⟨some 15, none, .op .nilck [.tmp 14]⟩
  (.val ⟨some 16, none, .op (.fieldA 0) [.tmp 15]⟩
  (.val ⟨some 17, none, .op .load1 [.tmp 16]⟩
  (.val ⟨some 18, none, .op .id [.tmp 0]⟩
  (.val ⟨some 19, none, .op .nilck [.tmp 18]⟩
  (.val ⟨some 20, none, .op (.fieldA 1) [.tmp 19]⟩
  (.val ⟨some 21, none, .op .load1 [.tmp 20]⟩
  (.eff ⟨some 22, none, .callv (.tmp 13) [.tmp 17, .tmp 21]⟩ []
  (.val ⟨some 12, none, .op .id [.tmp 22]⟩
  (.val ⟨some 23, none, .op (.extract 0) [.tmp 12]⟩
  (.val ⟨some 24, none, .op (.extract 1) [.tmp 12]⟩
  (.val ⟨some 25, none, .op (.extract 2) [.tmp 12]⟩
  (.val ⟨some 5, none, .op .id [.tmp 23]⟩
  (.val ⟨some 6, none, .op .id [.tmp 24]⟩
  (.val ⟨some 7, none, .op .id [.tmp 25]⟩
  .fin)))))))))))))))))
abbrev message_reader_number.r3 : List Ins := [⟨some 26, none, .op .id [.tmp 7]⟩,
  ⟨some 27, none, .op (.bin .neq) [.tmp 26, .val (.t (.int .i64 0))]⟩]
abbrev message_reader_number.r4 : List Ins := [⟨some 28, none, .op .id [.tmp 0]⟩,
  ⟨some 29, none, .op .nilck [.tmp 28]⟩,
  ⟨some 30, none, .op (.fieldA 2) [.tmp 29]⟩,
  ⟨none, none, .op (.store 1) [.tmp 30, .val (.t (.bool true))]⟩]
abbrev message_reader_number.r5 : List Ins := [⟨some 4, none, .op .id [.val (.t (.int .i64 0))]⟩]
abbrev message_reader_number.r6 : List Ins := [⟨some 31, none, .op .id [.tmp 0]⟩,
  ⟨some 32, none, .op .id [.tmp 6]⟩,
  ⟨some 33, none, .op .nilck [.tmp 31]⟩,
  ⟨some 34, none, .op (.fieldA 1) [.tmp 33]⟩,
  ⟨none, none, .op (.store 1) [.tmp 34, .tmp 32]⟩]
abbrev message_reader_number.r7 : List Ins := [⟨some 35, none, .op .id [.tmp 5]⟩,
  ⟨some 4, none, .op .id [.tmp 35]⟩]
abbrev message_reader_number.body : Cd := (.seq (.rgn message_reader_number.r0) (.seq (.seq (.rgn message_reader_number.r1) (.cond (.tmp 11) (.seq (.rgn message_reader_number.r2) .ret) .skip)) (.seq (.rgnD message_reader_number.d0) (.seq (.seq (.rgn message_reader_number.r3) (.cond (.tmp 27) (.seq (.rgn message_reader_number.r4) (.seq (.rgn message_reader_number.r5) .ret)) .skip)) (.seq (.rgn message_reader_number.r6) (.seq (.rgn message_reader_number.r7) .ret))))))
def message_reader_number.af : AF := ⟨2, 36, [.tmp 4], message_reader_number.body⟩
theorem message_reader_number.ok : cFunc PP [] Try.f74 = some message_reader_number.af := by kernel_rfl
theorem message_reader_number.intro {args : List V} {H : Heap} {Q : V → Heap → Prop} (hlen : args.length ≤ 36) (h : wpC (SCall PP) H.length message_reader_number.body (exitK H.length [.tmp 4] Q) ⟨initVs 0 args, H⟩) : SCall PP N.message_reader_number args H Q :=
  SCall.intro Try.func74 (by kernel_rfl) message_reader_number.ok hlen h
/-! ### (*debugger/message.reader).thread -/
abbrev message_reader_thread.r0 : List Ins := [⟨some 2, none, .op (.alloc [(.int .i64 0), (.int .i64 0), (.int .i64 0), (.int .i64 0), (.int .i64 0), (.int .i64 0), (.int .i64 0), (.int .i64 0), (.int .i64 0), (.int .i64 0), (.int .i64 0), (.int .i64 0), (.int .i64 0), (.int .i64 0), (.int .i64 0), (.int .i64 0), (.int .i64 0), (.int .i64 0), (.int .i64 0), (.lst 0 true [])]) []⟩]
abbrev message_reader_thread.r1 : List Ins := [⟨some 5, none, .op .id [.tmp 0]⟩,
  ⟨some 6, none, .call N.message_reader_exactly [.tmp 5, .val (.t (.int .i64 19))]⟩,
  ⟨some 3, none, .op .id [.tmp 6]⟩]
abbrev message_reader_thread.d0 : Plan := (.val ⟨some 7, none, .op .id [.tmp 3]⟩
  (.val ⟨some 8, none, .op (.idxS 1) [.tmp 7, .val (.t (.int .i64 0))]⟩
  (.val ⟨some 9, none, .op .load1 [.tmp 8]⟩
  (.val ⟨some 10, none, .op .id [.tmp 3]⟩
  (.val ⟨some 11, none, .op (.idxS 1) [.tmp 10, .val (.t (.int .i64 1))]⟩
  (.val ⟨some 12, none, .op .load1 [.tmp 11]⟩
  (.val ⟨some 13, none, .op .id [.tmp 3]⟩
  (.val ⟨some 14, none, .op (.idxS 1) [.tmp 13, .val (.t (.int .i64 2))]⟩
  (.val ⟨some 15, none, .op .load1 [.tmp 14]⟩
  (.val ⟨some 16, none, .op (.build [(.int .i64 0), (.int .i64 0), (.int .i64 0), (.int .i64 0), (.int .i64 0), (.int .i64 0), (.int .i64 0), (.int .i64 0), (.int .i64 0), (.int .i64 0), (.int .i64 0), (.int .i64 0), (.int .i64 0), (.int .i64 0), (.int .i64 0), (.int .i64 0), (.int .i64 0)] [(16, 1)]) [.tmp 15]⟩
  (.val ⟨some 17, none, .op (.build [(.int .i64 0), (.int .i64 0), (.int .i64 0), (.int .i64 0), (.int .i64 0), (.int .i64 0), (.int .i64 0), (.int .i64 0), (.int .i64 0), (.int .i64 0), (.int .i64 0), (.int .i64 0), (.int .i64 0), (.int .i64 0), (.int .i64 0), (.int .i64 0), (.int .i64 0), (.int .i64 0), (.int .i64 0), (.lst 0 true [])] [(0, 1), (18, 1), (1, 17)]) [.tmp 9, .tmp 12, .tmp 16]⟩
  (.eff ⟨some 4, none, .op (.alloc [(.int .i64 0), (.int .i64 0), (.int .i64 0), (.int .i64 0), (.int .i64 0), (.int .i64 0), (.int .i64 0), (.int .i64 0), (.int .i64 0), (.int .i64 0), (.int .i64 0), (.int .i64 0), (.int .i64 0), (.int .i64 0), (.int .i64 0), (.int .i64 0), (.int .i64 0), (.int .i64 0), (.int .i64 0), (.lst 0 true [])]) []⟩ [⟨some 8, none, .op (.idxS 1) [.tmp 7, .val (.t (.int .i64 0))]⟩, ⟨some 9, none, .op .load1 [.tmp 8]⟩, ⟨some 11, none, .op (.idxS 1) [.tmp 10, .val (.t (.int .i64 1))]⟩, ⟨some 12, none, .op .load1 [.tmp 11]⟩, ⟨some 14, none, .op (.idxS 1) [.tmp 13, .val (.t (.int .i64 2))]⟩, ⟨some 15, none, .op .load1 [.tmp 14]⟩]
  (.eff ⟨none, none, .op (.store 20) [.tmp 4, .tmp 17]⟩ []
  .fin)))))))))))))
abbrev message_reader_thread.d1 : Plan := (.val ⟨some 18, none, .op (.fieldA 1) [.tmp 4]⟩
  (.val ⟨some 19, none, .op (.fieldA 0) [.tmp 18]⟩
  (.val ⟨some 20, none, .op (.sliceA 16 false false) [.tmp 19]⟩
  (.val ⟨some 21, none, .op .id [.tmp 3]⟩
  (.val ⟨some 22, none, .op (.slice 1 true false) [.tmp 21, .val (.t (.int .i64 3))]⟩
  (.eff ⟨some 23, none, .op (.copy 1) [.tmp 20, .tmp 22]⟩ []
  .fin))))))
abbrev message_reader_thread.r2 : List Ins := [⟨some 24, none, .op .id [.tmp 0]⟩,
  ⟨some 25, none, .call N.message_reader_ints [.tmp 24, .val (.t (.int .i64 4))]⟩,
  ⟨some 26, none, .op (.fieldA 19) [.tmp 4]⟩,
  ⟨none, none, .op (.store 1) [.tmp 26, .tmp 25]⟩]
abbrev message_reader_thread.r3 : List Ins := [⟨some 27, none, .op (.loadN 20) [.tmp 4]⟩,
  ⟨none, none, .op (.store 20) [.tmp 2, .tmp 27]⟩]
abbrev message_reader_thread.body : Cd := (.seq (.rgn message_reader_thread.r0) (.seq (.rgn message_reader_thread.r1) (.seq (.rgnD message_reader_thread.d0) (.seq (.rgnD message_reader_thread.d1) (.seq (.rgn message_reader_thread.r2) (.seq (.rgn message_reader_thread.r3) .ret))))))
def message_reader_thread.af : AF := ⟨1, 28, [.cell 2 20 false], message_reader_thread.body⟩
theorem message_reader_thread.ok : cFunc PP [] Try.f75 = some message_reader_thread.af := by kernel_rfl
theorem message_reader_thread.intro {args : List V} {H : Heap} {Q : V → Heap → Prop} (hlen : args.length ≤ 28) (h : wpC (SCall PP) H.length message_reader_thread.body (exitK H.length [.cell 2 20 false] Q) ⟨initVs 0 args, H⟩) : SCall PP N.message_reader_thread args H Q :=
  SCall.intro Try.func75 (by kernel_rfl) message_reader_thread.ok hlen h
end Go.Proofs.Ytljjabccgbakgaa
