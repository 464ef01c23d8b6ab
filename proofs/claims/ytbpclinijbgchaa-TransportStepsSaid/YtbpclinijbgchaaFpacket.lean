/- The functions of package packet as the code of the abstract machine. Written by a program of the session. -/
import Derived.Test.YtbpclinijbgchaaFn
namespace Go.Proofs.Ytbpclinijbgchaa
open Go Go.Abs
set_option maxRecDepth 100000
/-! ### debugger/packet.Encode -/
abbrev packet_Encode.r0 : List Ins := [⟨some 1, none, .op .box [.tmp 0]⟩,
  ⟨some 2, none, .op .id [.val (.t (.lst 0 true []))]⟩,
  ⟨some 3, none, .op .id [.val (.t (.int .i64 0))]⟩]
abbrev packet_Encode.r1 : List Ins := [⟨some 8, none, .op (.loadN 6) [.tmp 1]⟩,
  ⟨some 9, none, .call N.packet_Right [.tmp 8]⟩,
  ⟨some 10, none, .op (.un .not) [.tmp 9]⟩]
abbrev packet_Encode.r2 : List Ins := [⟨some 2, none, .op .id [.val (.t (.lst 0 true []))]⟩,
  ⟨some 3, none, .op .id [.val (.t (.int .i64 1))]⟩]
abbrev packet_Encode.r3 : List Ins := [⟨some 11, none, .op (.fieldA 0) [.tmp 1]⟩,
  ⟨some 12, none, .op .load1 [.tmp 11]⟩,
  ⟨some 13, none, .op (.conv .u8) [.tmp 12]⟩,
  ⟨some 14, none, .op (.buildSlice 1 (.int .u8 0) 1 [0]) [.tmp 13]⟩,
  ⟨some 4, none, .op .id [.tmp 14]⟩]
abbrev packet_Encode.r4 : List Ins := [⟨some 15, none, .op (.fieldA 1) [.tmp 1]⟩,
  ⟨some 16, none, .op .load1 [.tmp 15]⟩,
  ⟨some 17, none, .op (.fieldA 2) [.tmp 1]⟩,
  ⟨some 18, none, .op .load1 [.tmp 17]⟩,
  ⟨some 19, none, .op (.fieldA 3) [.tmp 1]⟩,
  ⟨some 20, none, .op .load1 [.tmp 19]⟩,
  ⟨some 21, none, .op (.fieldA 4) [.tmp 1]⟩,
  ⟨some 22, none, .op .load1 [.tmp 21]⟩,
  ⟨some 23, none, .op (.fieldA 5) [.tmp 1]⟩,
  ⟨some 24, none, .op .load1 [.tmp 23]⟩,
  ⟨some 25, none, .op .len [.tmp 24]⟩,
  ⟨some 26, none, .op (.buildSlice 1 (.int .i64 0) 5 [0, 1, 2, 3, 4]) [.tmp 16, .tmp 18, .tmp 20, .tmp 22, .tmp 25]⟩,
  ⟨some 27, none, .op .len [.tmp 26]⟩,
  ⟨some 28, none, .op .id [.val (.t (.int .i64 0))]⟩]
abbrev packet_Encode.r5 : List Ins := [⟨some 29, none, .op (.bin .lss) [.tmp 28, .tmp 27]⟩]
abbrev packet_Encode.r6 : List Ins := [⟨some 30, none, .op (.idxS 1) [.tmp 26, .tmp 28]⟩,
  ⟨some 31, none, .op .load1 [.tmp 30]⟩,
  ⟨some 6, none, .op .id [.tmp 31]⟩]
abbrev packet_Encode.r7 : List Ins := [⟨some 32, none, .op .id [.tmp 4]⟩,
  ⟨some 33, none, .op .id [.tmp 6]⟩,
  ⟨some 34, none, .call N.wire_AppendUint [.tmp 32, .tmp 33]⟩,
  ⟨some 4, none, .op .id [.tmp 34]⟩]
abbrev packet_Encode.r8 : List Ins := [⟨some 35, none, .op (.bin .add) [.tmp 28, .val (.t (.int .i64 1))]⟩,
  ⟨some 28, none, .op .id [.tmp 35]⟩]
abbrev packet_Encode.l0 : Cd := (.seq (.rgn packet_Encode.r5) (.seq (.cond (.tmp 29) .skip (.exit 0)) (.seq (.block 1 (.seq (.rgn packet_Encode.r6) (.rgn packet_Encode.r7))) (.rgn packet_Encode.r8))))
abbrev packet_Encode.r9 : List Ins := [⟨some 36, none, .op .id [.tmp 4]⟩,
  ⟨some 37, none, .op (.fieldA 5) [.tmp 1]⟩,
  ⟨some 38, none, .op .load1 [.tmp 37]⟩,
  ⟨some 39, none, .op (.append 1 1) [.tmp 36, .tmp 38]⟩,
  ⟨some 4, none, .op .id [.tmp 39]⟩]
abbrev packet_Encode.r10 : List Ins := [⟨some 40, none, .op .id [.tmp 4]⟩,
  ⟨some 41, none, .call N.packet_Sum [.tmp 40]⟩,
  ⟨some 7, none, .op .id [.tmp 41]⟩]
abbrev packet_Encode.r11 : List Ins := [⟨some 42, none, .op .id [.tmp 4]⟩,
  ⟨some 43, none, .op .id [.tmp 7]⟩,
  ⟨some 44, none, .op (.bin .shr) [.tmp 43, .val (.t (.int .u64 8))]⟩,
  ⟨some 45, none, .op (.conv .u8) [.tmp 44]⟩,
  ⟨some 46, none, .op .id [.tmp 7]⟩,
  ⟨some 47, none, .op (.conv .u8) [.tmp 46]⟩,
  ⟨some 48, none, .op (.buildSlice 1 (.int .u8 0) 2 [0, 1]) [.tmp 45, .tmp 47]⟩,
  ⟨some 49, none, .op (.append 1 1) [.tmp 42, .tmp 48]⟩,
  ⟨some 2, none, .op .id [.tmp 49]⟩,
  ⟨some 3, none, .op .id [.val (.t (.int .i64 0))]⟩]
abbrev packet_Encode.body : Cd := (.seq (.rgn packet_Encode.r0) (.seq (.seq (.rgn packet_Encode.r1) (.cond (.tmp 10) (.seq (.rgn packet_Encode.r2) .ret) .skip)) (.seq (.rgn packet_Encode.r3) (.seq (.seq (.rgn packet_Encode.r4) (.block 0 (.loop packet_Encode.l0))) (.seq (.rgn packet_Encode.r9) (.seq (.rgn packet_Encode.r10) (.seq (.rgn packet_Encode.r11) .ret)))))))
def packet_Encode.af : AF := ⟨1, 50, [.tmp 2, .tmp 3], packet_Encode.body⟩
theorem packet_Encode.ok : cFunc PP [] Try.f28 = some packet_Encode.af := by kernel_rfl
theorem packet_Encode.intro {args : List V} {H : Heap} {Q : V → Heap → Prop} (hlen : args.length ≤ 50) (h : wpC (SCall PP) H.length packet_Encode.body (exitK H.length [.tmp 2, .tmp 3] Q) ⟨initVs 0 args, H⟩) : SCall PP N.packet_Encode args H Q :=
  SCall.intro Try.func28 (by kernel_rfl) packet_Encode.ok hlen h
/-! ### debugger/packet.Decode -/
abbrev packet_Decode.r0 : List Ins := [⟨some 2, none, .op (.alloc [(.int .i64 0), (.int .i64 0), (.int .i64 0), (.int .i64 0), (.int .i64 0), (.lst 0 true [])]) []⟩,
  ⟨some 3, none, .op .id [.val (.t (.int .i64 0))]⟩]
abbrev packet_Decode.r1 : List Ins := [⟨some 7, none, .op .id [.tmp 0]⟩,
  ⟨some 8, none, .op .len [.tmp 7]⟩,
  ⟨some 9, none, .op (.bin .gtr) [.tmp 8, .val (.t (.int .i64 6060))]⟩]
abbrev packet_Decode.r2 : List Ins := [⟨some 10, none, .op (.build [(.int .i64 0), (.int .i64 0), (.int .i64 0), (.int .i64 0), (.int .i64 0), (.lst 0 true [])] []) []⟩,
  ⟨none, none, .op (.store 6) [.tmp 2, .tmp 10]⟩,
  ⟨some 3, none, .op .id [.val (.t (.int .i64 5))]⟩]
abbrev packet_Decode.r3 : List Ins := [⟨some 11, none, .op .id [.tmp 0]⟩,
  ⟨some 12, none, .op .len [.tmp 11]⟩,
  ⟨some 13, none, .op (.bin .sub) [.tmp 12, .val (.t (.int .i64 2))]⟩,
  ⟨some 4, none, .op .id [.tmp 13]⟩]
abbrev packet_Decode.d0 : Plan := (.val ⟨some 14, none, .op .id [.tmp 4]⟩
  (.val ⟨some 15, none, .op (.bin .lss) [.tmp 14, .val (.t (.int .i64 1))]⟩
  (.val ⟨some 16, none, .op .id [.tmp 15]⟩
  (.val ⟨some 17, some (16, false), .op .id [.tmp 0]⟩
  (.val ⟨some 18, some (16, false), .op .id [.tmp 4]⟩
  (.val ⟨some 19, some (16, false), .op (.slice 1 false true) [.tmp 17, .tmp 18]⟩
  (.val ⟨some 21, some (16, false), .op .id [.tmp 0]⟩
  (.val ⟨some 22, some (16, false), .op .id [.tmp 4]⟩
  (.val ⟨some 23, some (16, false), .op (.idxS 1) [.tmp 21, .tmp 22]⟩
  (.val ⟨some 24, some (16, false), .op .load1 [.tmp 23]⟩
  (.val ⟨some 25, some (16, false), .op (.conv .i64) [.tmp 24]⟩
  (.val ⟨some 26, some (16, false), .op (.bin .shl) [.tmp 25, .val (.t (.int .u64 8))]⟩
  (.val ⟨some 27, some (16, false), .op .id [.tmp 0]⟩
  (.val ⟨some 28, some (16, false), .op .id [.tmp 4]⟩
  (.val ⟨some 29, some (16, false), .op (.bin .add) [.tmp 28, .val (.t (.int .i64 1))]⟩
  (.val ⟨some 30, some (16, false), .op (.idxS 1) [.tmp 27, .tmp 29]⟩
  (.val ⟨some 31, some (16, false), .op .load1 [.tmp 30]⟩
  (.val ⟨some 32, some (16, false), .op (.conv .i64) [.tmp 31]⟩
  (.val ⟨some 33, some (16, false), .op (.bin .or) [.tmp 26, .tmp 32]⟩
  (.eff ⟨some 20, some (16, false), .call N.packet_Sum [.tmp 19]⟩ [⟨some 23, some (16, false), .op (.idxS 1) [.tmp 21, .tmp 22]⟩, ⟨some 24, some (16, false), .op .load1 [.tmp 23]⟩, ⟨some 30, some (16, false), .op (.idxS 1) [.tmp 27, .tmp 29]⟩, ⟨some 31, some (16, false), .op .load1 [.tmp 30]⟩]
  (.val ⟨some 34, some (16, false), .op (.bin .neq) [.tmp 20, .tmp 33]⟩
  (.val ⟨some 35, none, .op .pick [.tmp 16, .val (.t (.bool true)), .tmp 34]⟩
  .fin))))))))))))))))))))))
abbrev packet_Decode.r4 : List Ins := [⟨some 36, none, .op (.build [(.int .i64 0), (.int .i64 0), (.int .i64 0), (.int .i64 0), (.int .i64 0), (.lst 0 true [])] []) []⟩,
  ⟨none, none, .op (.store 6) [.tmp 2, .tmp 36]⟩,
  ⟨some 3, none, .op .id [.val (.t (.int .i64 28))]⟩]
abbrev packet_Decode.r5 : List Ins := [⟨some 38, none, .op .id [.tmp 0]⟩,
  ⟨some 39, none, .op .id [.tmp 4]⟩,
  ⟨some 40, none, .op (.slice 1 false true) [.tmp 38, .tmp 39]⟩,
  ⟨some 41, none, .call N.packet_read [.tmp 40]⟩,
  ⟨some 37, none, .op .id [.tmp 41]⟩,
  ⟨some 42, none, .op (.extract 0) [.tmp 37]⟩,
  ⟨some 43, none, .op (.extract 1) [.tmp 37]⟩,
  ⟨some 5, none, .op (.alloc [(.int .i64 0), (.int .i64 0), (.int .i64 0), (.int .i64 0), (.int .i64 0), (.lst 0 true [])]) []⟩,
  ⟨none, none, .op (.store 6) [.tmp 5, .tmp 42]⟩,
  ⟨some 6, none, .op .id [.tmp 43]⟩]
abbrev packet_Decode.r6 : List Ins := [⟨some 44, none, .op .id [.tmp 6]⟩,
  ⟨some 45, none, .op (.un .not) [.tmp 44]⟩]
abbrev packet_Decode.r7 : List Ins := [⟨some 46, none, .op (.build [(.int .i64 0), (.int .i64 0), (.int .i64 0), (.int .i64 0), (.int .i64 0), (.lst 0 true [])] []) []⟩,
  ⟨none, none, .op (.store 6) [.tmp 2, .tmp 46]⟩,
  ⟨some 3, none, .op .id [.val (.t (.int .i64 4))]⟩]
abbrev packet_Decode.r8 : List Ins := [⟨some 47, none, .op (.loadN 6) [.tmp 5]⟩,
  ⟨none, none, .op (.store 6) [.tmp 2, .tmp 47]⟩,
  ⟨some 3, none, .op .id [.val (.t (.int .i64 0))]⟩]
abbrev packet_Decode.body : Cd := (.seq (.rgn packet_Decode.r0) (.seq (.seq (.rgn packet_Decode.r1) (.cond (.tmp 9) (.seq (.rgn packet_Decode.r2) .ret) .skip)) (.seq (.rgn packet_Decode.r3) (.seq (.seq (.rgnD packet_Decode.d0) (.cond (.tmp 35) (.seq (.rgn packet_Decode.r4) .ret) .skip)) (.seq (.rgn packet_Decode.r5) (.seq (.seq (.rgn packet_Decode.r6) (.cond (.tmp 45) (.seq (.rgn packet_Decode.r7) .ret) .skip)) (.seq (.rgn packet_Decode.r8) .ret)))))))
def packet_Decode.af : AF := ⟨1, 48, [.cell 2 6 false, .tmp 3], packet_Decode.body⟩
theorem packet_Decode.ok : cFunc PP [] Try.f34 = some packet_Decode.af := by kernel_rfl
theorem packet_Decode.intro {args : List V} {H : Heap} {Q : V → Heap → Prop} (hlen : args.length ≤ 48) (h : wpC (SCall PP) H.length packet_Decode.body (exitK H.length [.cell 2 6 false, .tmp 3] Q) ⟨initVs 0 args, H⟩) : SCall PP N.packet_Decode args H Q :=
  SCall.intro Try.func34 (by kernel_rfl) packet_Decode.ok hlen h
/-! ### debugger/packet.Right -/
abbrev packet_Right.r0 : List Ins := [⟨some 1, none, .op .box [.tmp 0]⟩,
  ⟨some 2, none, .op .id [.val (.t (.bool false))]⟩]
abbrev packet_Right.r1 : List Ins := [⟨some 3, none, .op (.fieldA 0) [.tmp 1]⟩,
  ⟨some 4, none, .op .load1 [.tmp 3]⟩,
  ⟨some 5, none, .op (.bin .lss) [.tmp 4, .val (.t (.int .i64 1))]⟩,
  ⟨some 6, none, .op .id [.tmp 5]⟩,
  ⟨some 7, some (6, false), .op (.fieldA 0) [.tmp 1]⟩,
  ⟨some 8, some (6, false), .op .load1 [.tmp 7]⟩,
  ⟨some 9, some (6, false), .op (.bin .gtr) [.tmp 8, .val (.t (.int .i64 3))]⟩,
  ⟨some 10, none, .op .pick [.tmp 6, .val (.t (.bool true)), .tmp 9]⟩,
  ⟨some 11, none, .op .id [.tmp 10]⟩,
  ⟨some 12, some (11, false), .op (.fieldA 1) [.tmp 1]⟩,
  ⟨some 13, some (11, false), .op .load1 [.tmp 12]⟩,
  ⟨some 14, some (11, false), .op (.bin .lss) [.tmp 13, .val (.t (.int .i64 1))]⟩,
  ⟨some 15, none, .op .pick [.tmp 11, .val (.t (.bool true)), .tmp 14]⟩,
  ⟨some 16, none, .op .id [.tmp 15]⟩,
  ⟨some 17, some (16, false), .op (.fieldA 1) [.tmp 1]⟩,
  ⟨some 18, some (16, false), .op .load1 [.tmp 17]⟩,
  ⟨some 19, some (16, false), .call N.packet_number [.tmp 18]⟩,
  ⟨some 20, some (16, false), .op (.un .not) [.tmp 19]⟩,
  ⟨some 21, none, .op .pick [.tmp 16, .val (.t (.bool true)), .tmp 20]⟩,
  ⟨some 22, none, .op .id [.tmp 21]⟩,
  ⟨some 23, some (22, false), .op (.fieldA 2) [.tmp 1]⟩,
  ⟨some 24, some (22, false), .op .load1 [.tmp 23]⟩,
  ⟨some 25, some (22, false), .call N.packet_number [.tmp 24]⟩,
  ⟨some 26, some (22, false), .op (.un .not) [.tmp 25]⟩,
  ⟨some 27, none, .op .pick [.tmp 22, .val (.t (.bool true)), .tmp 26]⟩,
  ⟨some 28, none, .op .id [.tmp 27]⟩,
  ⟨some 29, some (28, false), .op (.fieldA 3) [.tmp 1]⟩,
  ⟨some 30, some (28, false), .op .load1 [.tmp 29]⟩,
  ⟨some 31, some (28, false), .call N.packet_number [.tmp 30]⟩,
  ⟨some 32, some (28, false), .op (.un .not) [.tmp 31]⟩,
  ⟨some 33, none, .op .pick [.tmp 28, .val (.t (.bool true)), .tmp 32]⟩,
  ⟨some 34, none, .op .id [.tmp 33]⟩,
  ⟨some 35, some (34, false), .op (.fieldA 4) [.tmp 1]⟩,
  ⟨some 36, some (34, false), .op .load1 [.tmp 35]⟩,
  ⟨some 37, some (34, false), .call N.packet_number [.tmp 36]⟩,
  ⟨some 38, some (34, false), .op (.un .not) [.tmp 37]⟩,
  ⟨some 39, none, .op .pick [.tmp 34, .val (.t (.bool true)), .tmp 38]⟩,
  ⟨some 40, none, .op .id [.tmp 39]⟩,
  ⟨some 41, some (40, false), .op (.fieldA 5) [.tmp 1]⟩,
  ⟨some 42, some (40, false), .op .load1 [.tmp 41]⟩,
  ⟨some 43, some (40, false), .op .len [.tmp 42]⟩,
  ⟨some 44, some (40, false), .op (.bin .gtr) [.tmp 43, .val (.t (.int .i64 6000))]⟩,
  ⟨some 45, none, .op .pick [.tmp 40, .val (.t (.bool true)), .tmp 44]⟩]
abbrev packet_Right.r2 : List Ins := [⟨some 2, none, .op .id [.val (.t (.bool false))]⟩]
abbrev packet_Right.r3 : List Ins := [⟨some 46, none, .op (.fieldA 0) [.tmp 1]⟩,
  ⟨some 47, none, .op .load1 [.tmp 46]⟩,
  ⟨some 48, none, .op (.bin .eql) [.tmp 47, .val (.t (.int .i64 2))]⟩]
abbrev packet_Right.r4 : List Ins := [⟨some 49, none, .op (.fieldA 3) [.tmp 1]⟩,
  ⟨some 50, none, .op .load1 [.tmp 49]⟩,
  ⟨some 51, none, .op (.bin .geq) [.tmp 50, .val (.t (.int .i64 1))]⟩,
  ⟨some 2, none, .op .id [.tmp 51]⟩]
abbrev packet_Right.r5 : List Ins := [⟨some 52, none, .op (.fieldA 3) [.tmp 1]⟩,
  ⟨some 53, none, .op .load1 [.tmp 52]⟩,
  ⟨some 54, none, .op (.bin .eql) [.tmp 53, .val (.t (.int .i64 0))]⟩,
  ⟨some 55, none, .op .id [.tmp 54]⟩,
  ⟨some 56, some (55, true), .op (.fieldA 5) [.tmp 1]⟩,
  ⟨some 57, some (55, true), .op .load1 [.tmp 56]⟩,
  ⟨some 58, some (55, true), .op .len [.tmp 57]⟩,
  ⟨some 59, some (55, true), .op (.bin .eql) [.tmp 58, .val (.t (.int .i64 0))]⟩,
  ⟨some 60, none, .op .pick [.tmp 55, .tmp 59, .val (.t (.bool false))]⟩,
  ⟨some 2, none, .op .id [.tmp 60]⟩]
abbrev packet_Right.body : Cd := (.seq (.rgn packet_Right.r0) (.seq (.seq (.rgn packet_Right.r1) (.cond (.tmp 45) (.seq (.rgn packet_Right.r2) .ret) .skip)) (.seq (.seq (.rgn packet_Right.r3) (.cond (.tmp 48) (.seq (.rgn packet_Right.r4) .ret) .skip)) (.seq (.rgn packet_Right.r5) .ret))))
def packet_Right.af : AF := ⟨1, 61, [.tmp 2], packet_Right.body⟩
theorem packet_Right.ok : cFunc PP [] Try.f39 = some packet_Right.af := by kernel_rfl
theorem packet_Right.intro {args : List V} {H : Heap} {Q : V → Heap → Prop} (hlen : args.length ≤ 61) (h : wpC (SCall PP) H.length packet_Right.body (exitK H.length [.tmp 2] Q) ⟨initVs 0 args, H⟩) : SCall PP N.packet_Right args H Q :=
  SCall.intro Try.func39 (by kernel_rfl) packet_Right.ok hlen h
/-! ### debugger/packet.Sum -/
abbrev packet_Sum.r0 : List Ins := [⟨some 2, none, .op .id [.val (.t (.int .i64 0))]⟩]
abbrev packet_Sum.r1 : List Ins := [⟨some 3, none, .op .id [.val (.t (.int .i64 65535))]⟩]
abbrev packet_Sum.r2 : List Ins := [⟨some 6, none, .op .id [.tmp 0]⟩,
  ⟨some 7, none, .op .len [.tmp 6]⟩,
  ⟨some 8, none, .op .id [.val (.t (.int .i64 0))]⟩]
abbrev packet_Sum.r3 : List Ins := [⟨some 9, none, .op (.bin .lss) [.tmp 8, .tmp 7]⟩]
abbrev packet_Sum.r4 : List Ins := [⟨some 10, none, .op (.idxS 1) [.tmp 6, .tmp 8]⟩,
  ⟨some 11, none, .op .load1 [.tmp 10]⟩,
  ⟨some 5, none, .op .id [.tmp 11]⟩]
abbrev packet_Sum.r5 : List Ins := [⟨some 12, none, .op .id [.tmp 3]⟩,
  ⟨some 13, none, .op .id [.tmp 5]⟩,
  ⟨some 14, none, .op (.conv .i64) [.tmp 13]⟩,
  ⟨some 15, none, .op (.bin .shl) [.tmp 14, .val (.t (.int .u64 8))]⟩,
  ⟨some 16, none, .op (.bin .xor) [.tmp 12, .tmp 15]⟩,
  ⟨some 3, none, .op .id [.tmp 16]⟩]
abbrev packet_Sum.r6 : List Ins := [⟨some 17, none, .op .id [.val (.t (.int .i64 0))]⟩]
abbrev packet_Sum.r7 : List Ins := [⟨some 18, none, .op (.bin .lss) [.tmp 17, .val (.t (.int .i64 8))]⟩]
abbrev packet_Sum.r8 : List Ins := [⟨some 19, none, .op .id [.tmp 3]⟩,
  ⟨some 20, none, .op (.bin .shl) [.tmp 19, .val (.t (.int .u64 1))]⟩,
  ⟨some 3, none, .op .id [.tmp 20]⟩]
abbrev packet_Sum.r9 : List Ins := [⟨some 21, none, .op .id [.tmp 3]⟩,
  ⟨some 22, none, .op (.bin .gtr) [.tmp 21, .val (.t (.int .i64 65535))]⟩]
abbrev packet_Sum.r10 : List Ins := [⟨some 23, none, .op .id [.tmp 3]⟩,
  ⟨some 24, none, .op (.bin .and) [.tmp 23, .val (.t (.int .i64 65535))]⟩,
  ⟨some 25, none, .op (.bin .xor) [.tmp 24, .val (.t (.int .i64 4129))]⟩,
  ⟨some 3, none, .op .id [.tmp 25]⟩]
abbrev packet_Sum.r11 : List Ins := [⟨some 26, none, .op (.bin .add) [.tmp 17, .val (.t (.int .i64 1))]⟩,
  ⟨some 17, none, .op .id [.tmp 26]⟩]
abbrev packet_Sum.l0 : Cd := (.seq (.rgn packet_Sum.r7) (.seq (.cond (.tmp 18) .skip (.exit 2)) (.seq (.block 3 (.seq (.rgn packet_Sum.r8) (.seq (.rgn packet_Sum.r9) (.cond (.tmp 22) (.rgn packet_Sum.r10) .skip)))) (.rgn packet_Sum.r11))))
abbrev packet_Sum.r12 : List Ins := [⟨some 27, none, .op (.bin .add) [.tmp 8, .val (.t (.int .i64 1))]⟩,
  ⟨some 8, none, .op .id [.tmp 27]⟩]
abbrev packet_Sum.l1 : Cd := (.seq (.rgn packet_Sum.r3) (.seq (.cond (.tmp 9) .skip (.exit 0)) (.seq (.block 1 (.seq (.rgn packet_Sum.r4) (.seq (.rgn packet_Sum.r5) (.seq (.rgn packet_Sum.r6) (.block 2 (.loop packet_Sum.l0)))))) (.rgn packet_Sum.r12))))
abbrev packet_Sum.r13 : List Ins := [⟨some 28, none, .op .id [.tmp 3]⟩,
  ⟨some 2, none, .op .id [.tmp 28]⟩]
abbrev packet_Sum.body : Cd := (.seq (.rgn packet_Sum.r0) (.seq (.rgn packet_Sum.r1) (.seq (.seq (.rgn packet_Sum.r2) (.block 0 (.loop packet_Sum.l1))) (.seq (.rgn packet_Sum.r13) .ret))))
def packet_Sum.af : AF := ⟨1, 29, [.tmp 2], packet_Sum.body⟩
theorem packet_Sum.ok : cFunc PP [] Try.f41 = some packet_Sum.af := by kernel_rfl
theorem packet_Sum.intro {args : List V} {H : Heap} {Q : V → Heap → Prop} (hlen : args.length ≤ 29) (h : wpC (SCall PP) H.length packet_Sum.body (exitK H.length [.tmp 2] Q) ⟨initVs 0 args, H⟩) : SCall PP N.packet_Sum args H Q :=
  SCall.intro Try.func41 (by kernel_rfl) packet_Sum.ok hlen h
/-! ### debugger/packet.read -/
abbrev packet_read.r0 : List Ins := [⟨some 2, none, .op (.alloc [(.int .i64 0), (.int .i64 0), (.int .i64 0), (.int .i64 0), (.int .i64 0), (.lst 0 true [])]) []⟩,
  ⟨some 3, none, .op .id [.val (.t (.bool false))]⟩]
abbrev packet_read.r1 : List Ins := [⟨some 11, none, .op .id [.tmp 0]⟩,
  ⟨some 12, none, .op .len [.tmp 11]⟩,
  ⟨some 13, none, .op (.bin .eql) [.tmp 12, .val (.t (.int .i64 0))]⟩]
abbrev packet_read.r2 : List Ins := [⟨some 14, none, .op (.build [(.int .i64 0), (.int .i64 0), (.int .i64 0), (.int .i64 0), (.int .i64 0), (.lst 0 true [])] []) []⟩,
  ⟨none, none, .op (.store 6) [.tmp 2, .tmp 14]⟩,
  ⟨some 3, none, .op .id [.val (.t (.bool false))]⟩]
abbrev packet_read.r3 : List Ins := [⟨some 4, none, .op (.alloc [(.int .i64 0), (.int .i64 0), (.int .i64 0), (.int .i64 0), (.int .i64 0)]) []⟩]
abbrev packet_read.r4 : List Ins := [⟨some 5, none, .op .id [.val (.t (.int .i64 1))]⟩]
abbrev packet_read.r5 : List Ins := [⟨some 15, none, .op .id [.val (.t (.int .i64 0))]⟩]
abbrev packet_read.r6 : List Ins := [⟨some 16, none, .op (.bin .lss) [.tmp 15, .val (.t (.int .i64 5))]⟩]
abbrev packet_read.r7 : List Ins := [⟨some 17, none, .op .id [.tmp 15]⟩,
  ⟨some 6, none, .op .id [.tmp 17]⟩]
abbrev packet_read.r8 : List Ins := [⟨some 19, none, .op .id [.tmp 0]⟩,
  ⟨some 20, none, .op .id [.tmp 5]⟩,
  ⟨some 21, none, .call N.wire_Uint [.tmp 19, .tmp 20]⟩,
  ⟨some 18, none, .op .id [.tmp 21]⟩,
  ⟨some 22, none, .op (.extract 0) [.tmp 18]⟩,
  ⟨some 23, none, .op (.extract 1) [.tmp 18]⟩,
  ⟨some 24, none, .op (.extract 2) [.tmp 18]⟩,
  ⟨some 7, none, .op .id [.tmp 22]⟩,
  ⟨some 8, none, .op .id [.tmp 23]⟩,
  ⟨some 9, none, .op .id [.tmp 24]⟩]
abbrev packet_read.r9 : List Ins := [⟨some 25, none, .op .id [.tmp 9]⟩,
  ⟨some 26, none, .op (.bin .neq) [.tmp 25, .val (.t (.int .i64 0))]⟩]
abbrev packet_read.r10 : List Ins := [⟨some 27, none, .op (.build [(.int .i64 0), (.int .i64 0), (.int .i64 0), (.int .i64 0), (.int .i64 0), (.lst 0 true [])] []) []⟩,
  ⟨none, none, .op (.store 6) [.tmp 2, .tmp 27]⟩,
  ⟨some 3, none, .op .id [.val (.t (.bool false))]⟩]
abbrev packet_read.r11 : List Ins := [⟨some 28, none, .op .id [.tmp 6]⟩,
  ⟨some 29, none, .op .id [.tmp 7]⟩,
  ⟨some 30, none, .op .id [.tmp 8]⟩,
  ⟨some 31, none, .op (.idxA 5 1) [.tmp 4, .tmp 28]⟩,
  ⟨none, none, .op (.store 1) [.tmp 31, .tmp 29]⟩,
  ⟨some 5, none, .op .id [.tmp 30]⟩]
abbrev packet_read.r12 : List Ins := [⟨some 32, none, .op (.bin .add) [.tmp 15, .val (.t (.int .i64 1))]⟩,
  ⟨some 15, none, .op .id [.tmp 32]⟩]
abbrev packet_read.l0 : Cd := (.seq (.rgn packet_read.r6) (.seq (.cond (.tmp 16) .skip (.exit 0)) (.seq (.block 1 (.seq (.rgn packet_read.r7) (.seq (.rgn packet_read.r8) (.seq (.seq (.rgn packet_read.r9) (.cond (.tmp 26) (.seq (.rgn packet_read.r10) .ret) .skip)) (.rgn packet_read.r11))))) (.rgn packet_read.r12))))
abbrev packet_read.d0 : Plan := (.val ⟨some 33, none, .op .id [.tmp 0]⟩
  (.val ⟨some 34, none, .op (.idxS 1) [.tmp 33, .val (.t (.int .i64 0))]⟩
  (.val ⟨some 35, none, .op .load1 [.tmp 34]⟩
  (.val ⟨some 36, none, .op (.conv .i64) [.tmp 35]⟩
  (.val ⟨some 37, none, .op (.idxA 5 1) [.tmp 4, .val (.t (.int .i64 0))]⟩
  (.val ⟨some 38, none, .op .load1 [.tmp 37]⟩
  (.val ⟨some 39, none, .op (.idxA 5 1) [.tmp 4, .val (.t (.int .i64 1))]⟩
  (.val ⟨some 40, none, .op .load1 [.tmp 39]⟩
  (.val ⟨some 41, none, .op (.idxA 5 1) [.tmp 4, .val (.t (.int .i64 2))]⟩
  (.val ⟨some 42, none, .op .load1 [.tmp 41]⟩
  (.val ⟨some 43, none, .op (.idxA 5 1) [.tmp 4, .val (.t (.int .i64 3))]⟩
  (.val ⟨some 44, none, .op .load1 [.tmp 43]⟩
  (.val ⟨some 45, none, .op .id [.tmp 0]⟩
  (.val ⟨some 46, none, .op .id [.tmp 5]⟩
  (.val ⟨some 47, none, .op (.slice 1 true false) [.tmp 45, .tmp 46]⟩
  (.alt (.eff ⟨some 48, none, .op (.append 1 1) [.val (.t (.lst 0 true [])), .tmp 47]⟩ [⟨some 34, none, .op (.idxS 1) [.tmp 33, .val (.t (.int .i64 0))]⟩, ⟨some 35, none, .op .load1 [.tmp 34]⟩, ⟨some 38, none, .op .load1 [.tmp 37]⟩, ⟨some 40, none, .op .load1 [.tmp 39]⟩, ⟨some 42, none, .op .load1 [.tmp 41]⟩, ⟨some 44, none, .op .load1 [.tmp 43]⟩]
  (.val ⟨some 49, none, .op (.build [(.int .i64 0), (.int .i64 0), (.int .i64 0), (.int .i64 0), (.int .i64 0), (.lst 0 true [])] [(0, 1), (1, 1), (2, 1), (3, 1), (4, 1), (5, 1)]) [.tmp 36, .tmp 38, .tmp 40, .tmp 42, .tmp 44, .tmp 48]⟩
  (.eff ⟨some 10, none, .op (.alloc [(.int .i64 0), (.int .i64 0), (.int .i64 0), (.int .i64 0), (.int .i64 0), (.lst 0 true [])]) []⟩ [⟨some 34, none, .op (.idxS 1) [.tmp 33, .val (.t (.int .i64 0))]⟩, ⟨some 35, none, .op .load1 [.tmp 34]⟩, ⟨some 38, none, .op .load1 [.tmp 37]⟩, ⟨some 40, none, .op .load1 [.tmp 39]⟩, ⟨some 42, none, .op .load1 [.tmp 41]⟩, ⟨some 44, none, .op .load1 [.tmp 43]⟩]
  (.eff ⟨none, none, .op (.store 6) [.tmp 10, .tmp 49]⟩ []
  .fin))))
  (.eff ⟨some 10, none, .op (.alloc [(.int .i64 0), (.int .i64 0), (.int .i64 0), (.int .i64 0), (.int .i64 0), (.lst 0 true [])]) []⟩ [⟨some 34, none, .op (.idxS 1) [.tmp 33, .val (.t (.int .i64 0))]⟩, ⟨some 35, none, .op .load1 [.tmp 34]⟩, ⟨some 38, none, .op .load1 [.tmp 37]⟩, ⟨some 40, none, .op .load1 [.tmp 39]⟩, ⟨some 42, none, .op .load1 [.tmp 41]⟩, ⟨some 44, none, .op .load1 [.tmp 43]⟩]
  (.eff ⟨some 48, none, .op (.append 1 1) [.val (.t (.lst 0 true [])), .tmp 47]⟩ [⟨some 34, none, .op (.idxS 1) [.tmp 33, .val (.t (.int .i64 0))]⟩, ⟨some 35, none, .op .load1 [.tmp 34]⟩, ⟨some 38, none, .op .load1 [.tmp 37]⟩, ⟨some 40, none, .op .load1 [.tmp 39]⟩, ⟨some 42, none, .op .load1 [.tmp 41]⟩, ⟨some 44, none, .op .load1 [.tmp 43]⟩]
  (.val ⟨some 49, none, .op (.build [(.int .i64 0), (.int .i64 0), (.int .i64 0), (.int .i64 0), (.int .i64 0), (.lst 0 true [])] [(0, 1), (1, 1), (2, 1), (3, 1), (4, 1), (5, 1)]) [.tmp 36, .tmp 38, .tmp 40, .tmp 42, .tmp 44, .tmp 48]⟩
  (.eff ⟨none, none, .op (.store 6) [.tmp 10, .tmp 49]⟩ []
  .fin))))))))))))))))))))
abbrev packet_read.d1 : Plan := (.val ⟨some 50, none, .op (.loadN 6) [.tmp 10]⟩
  (.val ⟨some 51, none, .op (.idxA 5 1) [.tmp 4, .val (.t (.int .i64 4))]⟩
  (.val ⟨some 52, none, .op .load1 [.tmp 51]⟩
  (.val ⟨some 53, none, .op (.fieldA 5) [.tmp 10]⟩
  (.val ⟨some 54, none, .op .load1 [.tmp 53]⟩
  (.val ⟨some 55, none, .op .len [.tmp 54]⟩
  (.val ⟨some 56, none, .op (.bin .eql) [.tmp 52, .tmp 55]⟩
  (.val ⟨some 57, none, .op .id [.tmp 56]⟩
  (.val ⟨some 58, some (57, true), .op (.loadN 6) [.tmp 10]⟩
  (.eff ⟨some 59, some (57, true), .call N.packet_Right [.tmp 58]⟩ [⟨some 50, none, .op (.loadN 6) [.tmp 10]⟩]
  (.val ⟨some 60, none, .op .pick [.tmp 57, .tmp 59, .val (.t (.bool false))]⟩
  (.eff ⟨none, none, .op (.store 6) [.tmp 2, .tmp 50]⟩ []
  (.val ⟨some 3, none, .op .id [.tmp 60]⟩
  .fin)))))))))))))
abbrev packet_read.body : Cd := (.seq (.rgn packet_read.r0) (.seq (.seq (.rgn packet_read.r1) (.cond (.tmp 13) (.seq (.rgn packet_read.r2) .ret) .skip)) (.seq (.rgn packet_read.r3) (.seq (.rgn packet_read.r4) (.seq (.seq (.rgn packet_read.r5) (.block 0 (.loop packet_read.l0))) (.seq (.rgnD packet_read.d0) (.seq (.rgnD packet_read.d1) .ret)))))))
def packet_read.af : AF := ⟨1, 61, [.cell 2 6 false, .tmp 3], packet_read.body⟩
theorem packet_read.ok : cFunc PP [] Try.f43 = some packet_read.af := by kernel_rfl
theorem packet_read.intro {args : List V} {H : Heap} {Q : V → Heap → Prop} (hlen : args.length ≤ 61) (h : wpC (SCall PP) H.length packet_read.body (exitK H.length [.cell 2 6 false, .tmp 3] Q) ⟨initVs 0 args, H⟩) : SCall PP N.packet_read args H Q :=
  SCall.intro Try.func43 (by kernel_rfl) packet_read.ok hlen h
/-! ### debugger/packet.number -/
abbrev packet_number.r0 : List Ins := [⟨some 2, none, .op .id [.val (.t (.bool false))]⟩]
abbrev packet_number.r1 : List Ins := [⟨some 3, none, .op .id [.tmp 0]⟩,
  ⟨some 4, none, .op (.bin .geq) [.tmp 3, .val (.t (.int .i64 0))]⟩,
  ⟨some 5, none, .op .id [.tmp 4]⟩,
  ⟨some 6, some (5, true), .op .id [.tmp 0]⟩,
  ⟨some 7, some (5, true), .op (.bin .leq) [.tmp 6, .val (.t (.int .i64 1073741824))]⟩,
  ⟨some 8, none, .op .pick [.tmp 5, .tmp 7, .val (.t (.bool false))]⟩,
  ⟨some 2, none, .op .id [.tmp 8]⟩]
abbrev packet_number.body : Cd := (.seq (.rgn packet_number.r0) (.seq (.rgn packet_number.r1) .ret))
def packet_number.af : AF := ⟨1, 9, [.tmp 2], packet_number.body⟩
theorem packet_number.ok : cFunc PP [] Try.f46 = some packet_number.af := by kernel_rfl
theorem packet_number.intro {args : List V} {H : Heap} {Q : V → Heap → Prop} (hlen : args.length ≤ 9) (h : wpC (SCall PP) H.length packet_number.body (exitK H.length [.tmp 2] Q) ⟨initVs 0 args, H⟩) : SCall PP N.packet_number args H Q :=
  SCall.intro Try.func46 (by kernel_rfl) packet_number.ok hlen h
end Go.Proofs.Ytbpclinijbgchaa
