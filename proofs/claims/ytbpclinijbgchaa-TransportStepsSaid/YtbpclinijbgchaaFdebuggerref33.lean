/- The functions of package debuggerref33 as the code of the abstract machine. Written by a program of the session. -/
import Derived.Test.YtbpclinijbgchaaFn
namespace Go.Proofs.Ytbpclinijbgchaa
open Go Go.Abs
set_option maxRecDepth 100000
/-! ### debugger/debuggerref33.Encode -/
abbrev debuggerref33_Encode.r0 : List Ins := [⟨some 1, none, .op .box [.tmp 0]⟩,
  ⟨some 2, none, .op .id [.val (.t (.lst 0 true []))]⟩,
  ⟨some 3, none, .op .id [.val (.t (.int .i64 0))]⟩]
abbrev debuggerref33_Encode.r1 : List Ins := [⟨some 6, none, .op (.loadN 6) [.tmp 1]⟩,
  ⟨some 7, none, .call N.debuggerref33_Right [.tmp 6]⟩,
  ⟨some 8, none, .op (.un .not) [.tmp 7]⟩]
abbrev debuggerref33_Encode.r2 : List Ins := [⟨some 2, none, .op .id [.val (.t (.lst 0 true []))]⟩,
  ⟨some 3, none, .op .id [.val (.t (.int .i64 1))]⟩]
abbrev debuggerref33_Encode.r3 : List Ins := [⟨some 9, none, .op (.fieldA 0) [.tmp 1]⟩,
  ⟨some 10, none, .op .load1 [.tmp 9]⟩,
  ⟨some 11, none, .op (.conv .u8) [.tmp 10]⟩,
  ⟨some 12, none, .op (.buildSlice 1 (.int .u8 0) 1 [0]) [.tmp 11]⟩,
  ⟨some 4, none, .op .id [.tmp 12]⟩]
abbrev debuggerref33_Encode.r4 : List Ins := [⟨some 13, none, .op .id [.tmp 4]⟩,
  ⟨some 14, none, .op (.fieldA 1) [.tmp 1]⟩,
  ⟨some 15, none, .op .load1 [.tmp 14]⟩,
  ⟨some 16, none, .call N.debuggerref01_AppendUint [.tmp 13, .tmp 15]⟩,
  ⟨some 4, none, .op .id [.tmp 16]⟩]
abbrev debuggerref33_Encode.r5 : List Ins := [⟨some 17, none, .op .id [.tmp 4]⟩,
  ⟨some 18, none, .op (.fieldA 2) [.tmp 1]⟩,
  ⟨some 19, none, .op .load1 [.tmp 18]⟩,
  ⟨some 20, none, .call N.debuggerref01_AppendUint [.tmp 17, .tmp 19]⟩,
  ⟨some 4, none, .op .id [.tmp 20]⟩]
abbrev debuggerref33_Encode.r6 : List Ins := [⟨some 21, none, .op .id [.tmp 4]⟩,
  ⟨some 22, none, .op (.fieldA 3) [.tmp 1]⟩,
  ⟨some 23, none, .op .load1 [.tmp 22]⟩,
  ⟨some 24, none, .call N.debuggerref01_AppendUint [.tmp 21, .tmp 23]⟩,
  ⟨some 4, none, .op .id [.tmp 24]⟩]
abbrev debuggerref33_Encode.r7 : List Ins := [⟨some 25, none, .op .id [.tmp 4]⟩,
  ⟨some 26, none, .op (.fieldA 4) [.tmp 1]⟩,
  ⟨some 27, none, .op .load1 [.tmp 26]⟩,
  ⟨some 28, none, .call N.debuggerref01_AppendUint [.tmp 25, .tmp 27]⟩,
  ⟨some 4, none, .op .id [.tmp 28]⟩]
abbrev debuggerref33_Encode.r8 : List Ins := [⟨some 29, none, .op .id [.tmp 4]⟩,
  ⟨some 30, none, .op (.fieldA 5) [.tmp 1]⟩,
  ⟨some 31, none, .op .load1 [.tmp 30]⟩,
  ⟨some 32, none, .op .len [.tmp 31]⟩,
  ⟨some 33, none, .call N.debuggerref01_AppendUint [.tmp 29, .tmp 32]⟩,
  ⟨some 4, none, .op .id [.tmp 33]⟩]
abbrev debuggerref33_Encode.r9 : List Ins := [⟨some 34, none, .op .id [.tmp 4]⟩,
  ⟨some 35, none, .op (.fieldA 5) [.tmp 1]⟩,
  ⟨some 36, none, .op .load1 [.tmp 35]⟩,
  ⟨some 37, none, .op (.append 1 1) [.tmp 34, .tmp 36]⟩,
  ⟨some 4, none, .op .id [.tmp 37]⟩]
abbrev debuggerref33_Encode.r10 : List Ins := [⟨some 38, none, .op .id [.tmp 4]⟩,
  ⟨some 39, none, .call N.debuggerref33_Sum [.tmp 38]⟩,
  ⟨some 5, none, .op .id [.tmp 39]⟩]
abbrev debuggerref33_Encode.r11 : List Ins := [⟨some 40, none, .op .id [.tmp 4]⟩,
  ⟨some 41, none, .op .id [.tmp 5]⟩,
  ⟨some 42, none, .op (.bin .quo) [.tmp 41, .val (.t (.int .i64 256))]⟩,
  ⟨some 43, none, .op (.conv .u8) [.tmp 42]⟩,
  ⟨some 44, none, .op .id [.tmp 5]⟩,
  ⟨some 45, none, .op (.bin .rem) [.tmp 44, .val (.t (.int .i64 256))]⟩,
  ⟨some 46, none, .op (.conv .u8) [.tmp 45]⟩,
  ⟨some 47, none, .op (.buildSlice 1 (.int .u8 0) 2 [0, 1]) [.tmp 43, .tmp 46]⟩,
  ⟨some 48, none, .op (.append 1 1) [.tmp 40, .tmp 47]⟩,
  ⟨some 2, none, .op .id [.tmp 48]⟩,
  ⟨some 3, none, .op .id [.val (.t (.int .i64 0))]⟩]
abbrev debuggerref33_Encode.body : Cd := (.seq (.rgn debuggerref33_Encode.r0) (.seq (.seq (.rgn debuggerref33_Encode.r1) (.cond (.tmp 8) (.seq (.rgn debuggerref33_Encode.r2) .ret) .skip)) (.seq (.rgn debuggerref33_Encode.r3) (.seq (.rgn debuggerref33_Encode.r4) (.seq (.rgn debuggerref33_Encode.r5) (.seq (.rgn debuggerref33_Encode.r6) (.seq (.rgn debuggerref33_Encode.r7) (.seq (.rgn debuggerref33_Encode.r8) (.seq (.rgn debuggerref33_Encode.r9) (.seq (.rgn debuggerref33_Encode.r10) (.seq (.rgn debuggerref33_Encode.r11) .ret)))))))))))
def debuggerref33_Encode.af : AF := ⟨1, 49, [.tmp 2, .tmp 3], debuggerref33_Encode.body⟩
theorem debuggerref33_Encode.ok : cFunc PP [] Try.f17 = some debuggerref33_Encode.af := by kernel_rfl
theorem debuggerref33_Encode.intro {args : List V} {H : Heap} {Q : V → Heap → Prop} (hlen : args.length ≤ 49) (h : wpC (SCall PP) H.length debuggerref33_Encode.body (exitK H.length [.tmp 2, .tmp 3] Q) ⟨initVs 0 args, H⟩) : SCall PP N.debuggerref33_Encode args H Q :=
  SCall.intro Try.func17 (by kernel_rfl) debuggerref33_Encode.ok hlen h
/-! ### debugger/debuggerref33.Right -/
abbrev debuggerref33_Right.r0 : List Ins := [⟨some 1, none, .op .box [.tmp 0]⟩,
  ⟨some 2, none, .op .id [.val (.t (.bool false))]⟩]
abbrev debuggerref33_Right.r1 : List Ins := [⟨some 3, none, .op .id [.val (.t (.int .i64 1073741824))]⟩]
abbrev debuggerref33_Right.r2 : List Ins := [⟨some 4, none, .op (.fieldA 0) [.tmp 1]⟩,
  ⟨some 5, none, .op .load1 [.tmp 4]⟩,
  ⟨some 6, none, .op (.bin .lss) [.tmp 5, .val (.t (.int .i64 1))]⟩,
  ⟨some 7, none, .op .id [.tmp 6]⟩,
  ⟨some 8, some (7, false), .op (.fieldA 0) [.tmp 1]⟩,
  ⟨some 9, some (7, false), .op .load1 [.tmp 8]⟩,
  ⟨some 10, some (7, false), .op (.bin .gtr) [.tmp 9, .val (.t (.int .i64 3))]⟩,
  ⟨some 11, none, .op .pick [.tmp 7, .val (.t (.bool true)), .tmp 10]⟩,
  ⟨some 12, none, .op .id [.tmp 11]⟩,
  ⟨some 13, some (12, false), .op (.fieldA 1) [.tmp 1]⟩,
  ⟨some 14, some (12, false), .op .load1 [.tmp 13]⟩,
  ⟨some 15, some (12, false), .op (.bin .lss) [.tmp 14, .val (.t (.int .i64 1))]⟩,
  ⟨some 16, none, .op .pick [.tmp 12, .val (.t (.bool true)), .tmp 15]⟩,
  ⟨some 17, none, .op .id [.tmp 16]⟩,
  ⟨some 18, some (17, false), .op (.fieldA 1) [.tmp 1]⟩,
  ⟨some 19, some (17, false), .op .load1 [.tmp 18]⟩,
  ⟨some 20, some (17, false), .op .id [.tmp 3]⟩,
  ⟨some 21, some (17, false), .op (.bin .gtr) [.tmp 19, .tmp 20]⟩,
  ⟨some 22, none, .op .pick [.tmp 17, .val (.t (.bool true)), .tmp 21]⟩,
  ⟨some 23, none, .op .id [.tmp 22]⟩,
  ⟨some 24, some (23, false), .op (.fieldA 2) [.tmp 1]⟩,
  ⟨some 25, some (23, false), .op .load1 [.tmp 24]⟩,
  ⟨some 26, some (23, false), .op (.bin .lss) [.tmp 25, .val (.t (.int .i64 0))]⟩,
  ⟨some 27, none, .op .pick [.tmp 23, .val (.t (.bool true)), .tmp 26]⟩,
  ⟨some 28, none, .op .id [.tmp 27]⟩,
  ⟨some 29, some (28, false), .op (.fieldA 2) [.tmp 1]⟩,
  ⟨some 30, some (28, false), .op .load1 [.tmp 29]⟩,
  ⟨some 31, some (28, false), .op .id [.tmp 3]⟩,
  ⟨some 32, some (28, false), .op (.bin .gtr) [.tmp 30, .tmp 31]⟩,
  ⟨some 33, none, .op .pick [.tmp 28, .val (.t (.bool true)), .tmp 32]⟩,
  ⟨some 34, none, .op .id [.tmp 33]⟩,
  ⟨some 35, some (34, false), .op (.fieldA 3) [.tmp 1]⟩,
  ⟨some 36, some (34, false), .op .load1 [.tmp 35]⟩,
  ⟨some 37, some (34, false), .op (.bin .lss) [.tmp 36, .val (.t (.int .i64 0))]⟩,
  ⟨some 38, none, .op .pick [.tmp 34, .val (.t (.bool true)), .tmp 37]⟩,
  ⟨some 39, none, .op .id [.tmp 38]⟩,
  ⟨some 40, some (39, false), .op (.fieldA 3) [.tmp 1]⟩,
  ⟨some 41, some (39, false), .op .load1 [.tmp 40]⟩,
  ⟨some 42, some (39, false), .op .id [.tmp 3]⟩,
  ⟨some 43, some (39, false), .op (.bin .gtr) [.tmp 41, .tmp 42]⟩,
  ⟨some 44, none, .op .pick [.tmp 39, .val (.t (.bool true)), .tmp 43]⟩,
  ⟨some 45, none, .op .id [.tmp 44]⟩,
  ⟨some 46, some (45, false), .op (.fieldA 4) [.tmp 1]⟩,
  ⟨some 47, some (45, false), .op .load1 [.tmp 46]⟩,
  ⟨some 48, some (45, false), .op (.bin .lss) [.tmp 47, .val (.t (.int .i64 0))]⟩,
  ⟨some 49, none, .op .pick [.tmp 45, .val (.t (.bool true)), .tmp 48]⟩,
  ⟨some 50, none, .op .id [.tmp 49]⟩,
  ⟨some 51, some (50, false), .op (.fieldA 4) [.tmp 1]⟩,
  ⟨some 52, some (50, false), .op .load1 [.tmp 51]⟩,
  ⟨some 53, some (50, false), .op .id [.tmp 3]⟩,
  ⟨some 54, some (50, false), .op (.bin .gtr) [.tmp 52, .tmp 53]⟩,
  ⟨some 55, none, .op .pick [.tmp 50, .val (.t (.bool true)), .tmp 54]⟩,
  ⟨some 56, none, .op .id [.tmp 55]⟩,
  ⟨some 57, some (56, false), .op (.fieldA 5) [.tmp 1]⟩,
  ⟨some 58, some (56, false), .op .load1 [.tmp 57]⟩,
  ⟨some 59, some (56, false), .op .len [.tmp 58]⟩,
  ⟨some 60, some (56, false), .op (.bin .gtr) [.tmp 59, .val (.t (.int .i64 6000))]⟩,
  ⟨some 61, none, .op .pick [.tmp 56, .val (.t (.bool true)), .tmp 60]⟩]
abbrev debuggerref33_Right.r3 : List Ins := [⟨some 2, none, .op .id [.val (.t (.bool false))]⟩]
abbrev debuggerref33_Right.r4 : List Ins := [⟨some 62, none, .op (.fieldA 0) [.tmp 1]⟩,
  ⟨some 63, none, .op .load1 [.tmp 62]⟩,
  ⟨some 64, none, .op (.bin .eql) [.tmp 63, .val (.t (.int .i64 2))]⟩]
abbrev debuggerref33_Right.r5 : List Ins := [⟨some 65, none, .op (.fieldA 3) [.tmp 1]⟩,
  ⟨some 66, none, .op .load1 [.tmp 65]⟩,
  ⟨some 67, none, .op (.bin .geq) [.tmp 66, .val (.t (.int .i64 1))]⟩,
  ⟨some 2, none, .op .id [.tmp 67]⟩]
abbrev debuggerref33_Right.r6 : List Ins := [⟨some 68, none, .op (.fieldA 3) [.tmp 1]⟩,
  ⟨some 69, none, .op .load1 [.tmp 68]⟩,
  ⟨some 70, none, .op (.bin .eql) [.tmp 69, .val (.t (.int .i64 0))]⟩,
  ⟨some 71, none, .op .id [.tmp 70]⟩,
  ⟨some 72, some (71, true), .op (.fieldA 5) [.tmp 1]⟩,
  ⟨some 73, some (71, true), .op .load1 [.tmp 72]⟩,
  ⟨some 74, some (71, true), .op .len [.tmp 73]⟩,
  ⟨some 75, some (71, true), .op (.bin .eql) [.tmp 74, .val (.t (.int .i64 0))]⟩,
  ⟨some 76, none, .op .pick [.tmp 71, .tmp 75, .val (.t (.bool false))]⟩,
  ⟨some 2, none, .op .id [.tmp 76]⟩]
abbrev debuggerref33_Right.body : Cd := (.seq (.rgn debuggerref33_Right.r0) (.seq (.rgn debuggerref33_Right.r1) (.seq (.seq (.rgn debuggerref33_Right.r2) (.cond (.tmp 61) (.seq (.rgn debuggerref33_Right.r3) .ret) .skip)) (.seq (.seq (.rgn debuggerref33_Right.r4) (.cond (.tmp 64) (.seq (.rgn debuggerref33_Right.r5) .ret) .skip)) (.seq (.rgn debuggerref33_Right.r6) .ret)))))
def debuggerref33_Right.af : AF := ⟨1, 77, [.tmp 2], debuggerref33_Right.body⟩
theorem debuggerref33_Right.ok : cFunc PP [] Try.f31 = some debuggerref33_Right.af := by kernel_rfl
theorem debuggerref33_Right.intro {args : List V} {H : Heap} {Q : V → Heap → Prop} (hlen : args.length ≤ 77) (h : wpC (SCall PP) H.length debuggerref33_Right.body (exitK H.length [.tmp 2] Q) ⟨initVs 0 args, H⟩) : SCall PP N.debuggerref33_Right args H Q :=
  SCall.intro Try.func31 (by kernel_rfl) debuggerref33_Right.ok hlen h
/-! ### debugger/debuggerref33.Sum -/
abbrev debuggerref33_Sum.r0 : List Ins := [⟨some 2, none, .op .id [.val (.t (.int .i64 0))]⟩]
abbrev debuggerref33_Sum.r1 : List Ins := [⟨some 3, none, .op .id [.val (.t (.int .i64 65535))]⟩]
abbrev debuggerref33_Sum.r2 : List Ins := [⟨some 4, none, .op .id [.val (.t (.int .i64 0))]⟩]
abbrev debuggerref33_Sum.r3 : List Ins := [⟨some 7, none, .op .id [.tmp 4]⟩,
  ⟨some 8, none, .op .id [.tmp 0]⟩,
  ⟨some 9, none, .op .len [.tmp 8]⟩,
  ⟨some 10, none, .op (.bin .lss) [.tmp 7, .tmp 9]⟩]
abbrev debuggerref33_Sum.r4 : List Ins := [⟨some 13, none, .op .id [.tmp 3]⟩,
  ⟨some 14, none, .op .id [.tmp 0]⟩,
  ⟨some 15, none, .op .id [.tmp 4]⟩,
  ⟨some 16, none, .op (.idxS 1) [.tmp 14, .tmp 15]⟩,
  ⟨some 17, none, .op .load1 [.tmp 16]⟩,
  ⟨some 18, none, .op (.conv .i64) [.tmp 17]⟩,
  ⟨some 19, none, .op (.bin .mul) [.tmp 18, .val (.t (.int .i64 256))]⟩,
  ⟨some 20, none, .op (.bin .xor) [.tmp 13, .tmp 19]⟩,
  ⟨some 3, none, .op .id [.tmp 20]⟩]
abbrev debuggerref33_Sum.r5 : List Ins := [⟨some 5, none, .op .id [.val (.t (.int .i64 0))]⟩]
abbrev debuggerref33_Sum.r6 : List Ins := [⟨some 21, none, .op .id [.tmp 5]⟩,
  ⟨some 22, none, .op (.bin .lss) [.tmp 21, .val (.t (.int .i64 8))]⟩]
abbrev debuggerref33_Sum.r7 : List Ins := [⟨some 25, none, .op .id [.tmp 3]⟩,
  ⟨some 26, none, .op (.bin .geq) [.tmp 25, .val (.t (.int .i64 32768))]⟩,
  ⟨some 6, none, .op .id [.tmp 26]⟩]
abbrev debuggerref33_Sum.r8 : List Ins := [⟨some 27, none, .op .id [.tmp 3]⟩,
  ⟨some 28, none, .op (.bin .mul) [.tmp 27, .val (.t (.int .i64 2))]⟩,
  ⟨some 29, none, .op (.bin .rem) [.tmp 28, .val (.t (.int .i64 65536))]⟩,
  ⟨some 3, none, .op .id [.tmp 29]⟩]
abbrev debuggerref33_Sum.r9 : List Ins := [⟨some 30, none, .op .id [.tmp 6]⟩]
abbrev debuggerref33_Sum.r10 : List Ins := [⟨some 31, none, .op .id [.tmp 3]⟩,
  ⟨some 32, none, .op (.bin .xor) [.tmp 31, .val (.t (.int .i64 4129))]⟩,
  ⟨some 3, none, .op .id [.tmp 32]⟩]
abbrev debuggerref33_Sum.r11 : List Ins := [⟨some 23, none, .op .id [.tmp 5]⟩,
  ⟨some 24, none, .op (.bin .add) [.tmp 23, .val (.t (.int .i64 1))]⟩,
  ⟨some 5, none, .op .id [.tmp 24]⟩]
abbrev debuggerref33_Sum.l0 : Cd := (.seq (.seq (.rgn debuggerref33_Sum.r6) (.cond (.tmp 22) .skip (.exit 2))) (.seq (.block 3 (.seq (.rgn debuggerref33_Sum.r7) (.seq (.rgn debuggerref33_Sum.r8) (.seq (.rgn debuggerref33_Sum.r9) (.cond (.tmp 30) (.rgn debuggerref33_Sum.r10) .skip))))) (.rgn debuggerref33_Sum.r11)))
abbrev debuggerref33_Sum.r12 : List Ins := [⟨some 11, none, .op .id [.tmp 4]⟩,
  ⟨some 12, none, .op (.bin .add) [.tmp 11, .val (.t (.int .i64 1))]⟩,
  ⟨some 4, none, .op .id [.tmp 12]⟩]
abbrev debuggerref33_Sum.l1 : Cd := (.seq (.seq (.rgn debuggerref33_Sum.r3) (.cond (.tmp 10) .skip (.exit 0))) (.seq (.block 1 (.seq (.rgn debuggerref33_Sum.r4) (.seq (.rgn debuggerref33_Sum.r5) (.block 2 (.loop debuggerref33_Sum.l0))))) (.rgn debuggerref33_Sum.r12)))
abbrev debuggerref33_Sum.r13 : List Ins := [⟨some 33, none, .op .id [.tmp 3]⟩,
  ⟨some 2, none, .op .id [.tmp 33]⟩]
abbrev debuggerref33_Sum.body : Cd := (.seq (.rgn debuggerref33_Sum.r0) (.seq (.rgn debuggerref33_Sum.r1) (.seq (.seq (.rgn debuggerref33_Sum.r2) (.block 0 (.loop debuggerref33_Sum.l1))) (.seq (.rgn debuggerref33_Sum.r13) .ret))))
def debuggerref33_Sum.af : AF := ⟨1, 34, [.tmp 2], debuggerref33_Sum.body⟩
theorem debuggerref33_Sum.ok : cFunc PP [] Try.f33 = some debuggerref33_Sum.af := by kernel_rfl
theorem debuggerref33_Sum.intro {args : List V} {H : Heap} {Q : V → Heap → Prop} (hlen : args.length ≤ 34) (h : wpC (SCall PP) H.length debuggerref33_Sum.body (exitK H.length [.tmp 2] Q) ⟨initVs 0 args, H⟩) : SCall PP N.debuggerref33_Sum args H Q :=
  SCall.intro Try.func33 (by kernel_rfl) debuggerref33_Sum.ok hlen h
/-! ### debugger/debuggerref33.Decode -/
abbrev debuggerref33_Decode.r0 : List Ins := [⟨some 2, none, .op (.alloc [(.int .i64 0), (.int .i64 0), (.int .i64 0), (.int .i64 0), (.int .i64 0), (.lst 0 true [])]) []⟩,
  ⟨some 3, none, .op .id [.val (.t (.int .i64 0))]⟩]
abbrev debuggerref33_Decode.r1 : List Ins := [⟨some 12, none, .op .id [.tmp 0]⟩,
  ⟨some 13, none, .op .len [.tmp 12]⟩,
  ⟨some 14, none, .op (.bin .sub) [.tmp 13, .val (.t (.int .i64 2))]⟩,
  ⟨some 4, none, .op .id [.tmp 14]⟩]
abbrev debuggerref33_Decode.r2 : List Ins := [⟨some 16, none, .op .id [.tmp 0]⟩,
  ⟨some 17, none, .op .len [.tmp 16]⟩,
  ⟨some 18, none, .op (.bin .gtr) [.tmp 17, .val (.t (.int .i64 6060))]⟩,
  ⟨some 15, none, .op .id [.tmp 18]⟩]
abbrev debuggerref33_Decode.r3 : List Ins := [⟨some 19, none, .op (.build [(.int .i64 0), (.int .i64 0), (.int .i64 0), (.int .i64 0), (.int .i64 0), (.lst 0 true [])] []) []⟩,
  ⟨none, none, .op (.store 6) [.tmp 2, .tmp 19]⟩,
  ⟨some 3, none, .op .id [.val (.t (.int .i64 5))]⟩]
abbrev debuggerref33_Decode.d0 : Plan := (.val ⟨some 21, none, .op .id [.tmp 4]⟩
  (.val ⟨some 22, none, .op (.bin .lss) [.tmp 21, .val (.t (.int .i64 1))]⟩
  (.val ⟨some 23, none, .op .id [.tmp 22]⟩
  (.val ⟨some 24, some (23, false), .op .id [.tmp 0]⟩
  (.val ⟨some 25, some (23, false), .op .id [.tmp 4]⟩
  (.val ⟨some 26, some (23, false), .op (.idxS 1) [.tmp 24, .tmp 25]⟩
  (.val ⟨some 27, some (23, false), .op .load1 [.tmp 26]⟩
  (.val ⟨some 28, some (23, false), .op (.conv .i64) [.tmp 27]⟩
  (.val ⟨some 29, some (23, false), .op (.bin .mul) [.tmp 28, .val (.t (.int .i64 256))]⟩
  (.val ⟨some 30, some (23, false), .op .id [.tmp 0]⟩
  (.val ⟨some 31, some (23, false), .op .id [.tmp 4]⟩
  (.val ⟨some 32, some (23, false), .op (.bin .add) [.tmp 31, .val (.t (.int .i64 1))]⟩
  (.val ⟨some 33, some (23, false), .op (.idxS 1) [.tmp 30, .tmp 32]⟩
  (.val ⟨some 34, some (23, false), .op .load1 [.tmp 33]⟩
  (.val ⟨some 35, some (23, false), .op (.conv .i64) [.tmp 34]⟩
  (.val ⟨some 36, some (23, false), .op (.bin .add) [.tmp 29, .tmp 35]⟩
  (.val ⟨some 37, some (23, false), .op .id [.tmp 0]⟩
  (.val ⟨some 38, some (23, false), .op .id [.tmp 4]⟩
  (.val ⟨some 39, some (23, false), .op (.slice 1 false true) [.tmp 37, .tmp 38]⟩
  (.eff ⟨some 40, some (23, false), .call N.debuggerref33_Sum [.tmp 39]⟩ [⟨some 26, some (23, false), .op (.idxS 1) [.tmp 24, .tmp 25]⟩, ⟨some 27, some (23, false), .op .load1 [.tmp 26]⟩, ⟨some 33, some (23, false), .op (.idxS 1) [.tmp 30, .tmp 32]⟩, ⟨some 34, some (23, false), .op .load1 [.tmp 33]⟩]
  (.val ⟨some 41, some (23, false), .op (.bin .neq) [.tmp 36, .tmp 40]⟩
  (.val ⟨some 42, none, .op .pick [.tmp 23, .val (.t (.bool true)), .tmp 41]⟩
  (.val ⟨some 20, none, .op .id [.tmp 42]⟩
  .fin)))))))))))))))))))))))
abbrev debuggerref33_Decode.r4 : List Ins := [⟨some 43, none, .op (.build [(.int .i64 0), (.int .i64 0), (.int .i64 0), (.int .i64 0), (.int .i64 0), (.lst 0 true [])] []) []⟩,
  ⟨none, none, .op (.store 6) [.tmp 2, .tmp 43]⟩,
  ⟨some 3, none, .op .id [.val (.t (.int .i64 28))]⟩]
abbrev debuggerref33_Decode.r5 : List Ins := [⟨some 44, none, .op .id [.tmp 0]⟩,
  ⟨some 45, none, .op (.idxS 1) [.tmp 44, .val (.t (.int .i64 0))]⟩,
  ⟨some 46, none, .op .load1 [.tmp 45]⟩,
  ⟨some 47, none, .op (.conv .i64) [.tmp 46]⟩,
  ⟨some 48, none, .op (.build [(.int .i64 0), (.int .i64 0), (.int .i64 0), (.int .i64 0), (.int .i64 0), (.lst 0 true [])] [(0, 1)]) [.tmp 47]⟩,
  ⟨some 5, none, .op (.alloc [(.int .i64 0), (.int .i64 0), (.int .i64 0), (.int .i64 0), (.int .i64 0), (.lst 0 true [])]) []⟩,
  ⟨none, none, .op (.store 6) [.tmp 5, .tmp 48]⟩]
abbrev debuggerref33_Decode.r6 : List Ins := [⟨some 6, none, .op (.alloc [(.int .i64 0), (.int .i64 0), (.int .i64 0), (.int .i64 0), (.int .i64 0)]) []⟩]
abbrev debuggerref33_Decode.r7 : List Ins := [⟨some 7, none, .op .id [.val (.t (.int .i64 1))]⟩]
abbrev debuggerref33_Decode.r8 : List Ins := [⟨some 8, none, .op .id [.val (.t (.int .i64 0))]⟩]
abbrev debuggerref33_Decode.r9 : List Ins := [⟨some 49, none, .op .id [.tmp 8]⟩,
  ⟨some 50, none, .op (.bin .lss) [.tmp 49, .val (.t (.int .i64 5))]⟩]
abbrev debuggerref33_Decode.r10 : List Ins := [⟨some 54, none, .op .id [.tmp 0]⟩,
  ⟨some 55, none, .op .id [.tmp 4]⟩,
  ⟨some 56, none, .op (.slice 1 false true) [.tmp 54, .tmp 55]⟩,
  ⟨some 57, none, .op .id [.tmp 7]⟩,
  ⟨some 58, none, .call N.debuggerref01_Uint [.tmp 56, .tmp 57]⟩,
  ⟨some 53, none, .op .id [.tmp 58]⟩,
  ⟨some 59, none, .op (.extract 0) [.tmp 53]⟩,
  ⟨some 60, none, .op (.extract 1) [.tmp 53]⟩,
  ⟨some 61, none, .op (.extract 2) [.tmp 53]⟩,
  ⟨some 9, none, .op .id [.tmp 59]⟩,
  ⟨some 10, none, .op .id [.tmp 60]⟩,
  ⟨some 11, none, .op .id [.tmp 61]⟩]
abbrev debuggerref33_Decode.r11 : List Ins := [⟨some 62, none, .op .id [.tmp 11]⟩,
  ⟨some 63, none, .op (.bin .neq) [.tmp 62, .val (.t (.int .i64 0))]⟩]
abbrev debuggerref33_Decode.r12 : List Ins := [⟨some 64, none, .op (.build [(.int .i64 0), (.int .i64 0), (.int .i64 0), (.int .i64 0), (.int .i64 0), (.lst 0 true [])] []) []⟩,
  ⟨none, none, .op (.store 6) [.tmp 2, .tmp 64]⟩,
  ⟨some 3, none, .op .id [.val (.t (.int .i64 4))]⟩]
abbrev debuggerref33_Decode.r13 : List Ins := [⟨some 65, none, .op .id [.tmp 8]⟩,
  ⟨some 66, none, .op .id [.tmp 9]⟩,
  ⟨some 67, none, .op .id [.tmp 10]⟩,
  ⟨some 68, none, .op (.idxA 5 1) [.tmp 6, .tmp 65]⟩,
  ⟨none, none, .op (.store 1) [.tmp 68, .tmp 66]⟩,
  ⟨some 7, none, .op .id [.tmp 67]⟩]
abbrev debuggerref33_Decode.r14 : List Ins := [⟨some 51, none, .op .id [.tmp 8]⟩,
  ⟨some 52, none, .op (.bin .add) [.tmp 51, .val (.t (.int .i64 1))]⟩,
  ⟨some 8, none, .op .id [.tmp 52]⟩]
abbrev debuggerref33_Decode.l0 : Cd := (.seq (.seq (.rgn debuggerref33_Decode.r9) (.cond (.tmp 50) .skip (.exit 1))) (.seq (.block 2 (.seq (.rgn debuggerref33_Decode.r10) (.seq (.seq (.rgn debuggerref33_Decode.r11) (.cond (.tmp 63) (.seq (.rgn debuggerref33_Decode.r12) .ret) .skip)) (.rgn debuggerref33_Decode.r13)))) (.rgn debuggerref33_Decode.r14)))
abbrev debuggerref33_Decode.d1 : Plan := (.val ⟨some 69, none, .op (.idxA 5 1) [.tmp 6, .val (.t (.int .i64 0))]⟩
  (.val ⟨some 70, none, .op .load1 [.tmp 69]⟩
  (.val ⟨some 71, none, .op (.idxA 5 1) [.tmp 6, .val (.t (.int .i64 1))]⟩
  (.val ⟨some 72, none, .op .load1 [.tmp 71]⟩
  (.val ⟨some 73, none, .op (.idxA 5 1) [.tmp 6, .val (.t (.int .i64 2))]⟩
  (.val ⟨some 74, none, .op .load1 [.tmp 73]⟩
  (.val ⟨some 75, none, .op (.idxA 5 1) [.tmp 6, .val (.t (.int .i64 3))]⟩
  (.val ⟨some 76, none, .op .load1 [.tmp 75]⟩
  (.val ⟨some 77, none, .op (.fieldA 1) [.tmp 5]⟩
  (.eff ⟨none, none, .op (.store 1) [.tmp 77, .tmp 70]⟩ [⟨some 72, none, .op .load1 [.tmp 71]⟩, ⟨some 74, none, .op .load1 [.tmp 73]⟩, ⟨some 76, none, .op .load1 [.tmp 75]⟩]
  (.val ⟨some 78, none, .op (.fieldA 2) [.tmp 5]⟩
  (.eff ⟨none, none, .op (.store 1) [.tmp 78, .tmp 72]⟩ [⟨some 74, none, .op .load1 [.tmp 73]⟩, ⟨some 76, none, .op .load1 [.tmp 75]⟩]
  (.val ⟨some 79, none, .op (.fieldA 3) [.tmp 5]⟩
  (.eff ⟨none, none, .op (.store 1) [.tmp 79, .tmp 74]⟩ [⟨some 76, none, .op .load1 [.tmp 75]⟩]
  (.val ⟨some 80, none, .op (.fieldA 4) [.tmp 5]⟩
  (.eff ⟨none, none, .op (.store 1) [.tmp 80, .tmp 76]⟩ []
  .fin))))))))))))))))
abbrev debuggerref33_Decode.r15 : List Ins := [⟨some 81, none, .op (.buildSlice 1 (.int .u8 0) 0 []) []⟩,
  ⟨some 82, none, .op .id [.tmp 0]⟩,
  ⟨some 83, none, .op .id [.tmp 7]⟩,
  ⟨some 84, none, .op .id [.tmp 4]⟩,
  ⟨some 85, none, .op (.slice 1 true true) [.tmp 82, .tmp 83, .tmp 84]⟩,
  ⟨some 86, none, .op (.append 1 1) [.tmp 81, .tmp 85]⟩,
  ⟨some 87, none, .op (.fieldA 5) [.tmp 5]⟩,
  ⟨none, none, .op (.store 1) [.tmp 87, .tmp 86]⟩]
abbrev debuggerref33_Decode.r16 : List Ins := [⟨some 88, none, .op (.idxA 5 1) [.tmp 6, .val (.t (.int .i64 4))]⟩,
  ⟨some 89, none, .op .load1 [.tmp 88]⟩,
  ⟨some 90, none, .op (.fieldA 5) [.tmp 5]⟩,
  ⟨some 91, none, .op .load1 [.tmp 90]⟩,
  ⟨some 92, none, .op .len [.tmp 91]⟩,
  ⟨some 93, none, .op (.bin .neq) [.tmp 89, .tmp 92]⟩,
  ⟨some 94, none, .op .id [.tmp 93]⟩,
  ⟨some 95, some (94, false), .op (.loadN 6) [.tmp 5]⟩,
  ⟨some 96, some (94, false), .call N.debuggerref33_Right [.tmp 95]⟩,
  ⟨some 97, some (94, false), .op (.un .not) [.tmp 96]⟩,
  ⟨some 98, none, .op .pick [.tmp 94, .val (.t (.bool true)), .tmp 97]⟩]
abbrev debuggerref33_Decode.r17 : List Ins := [⟨some 99, none, .op (.build [(.int .i64 0), (.int .i64 0), (.int .i64 0), (.int .i64 0), (.int .i64 0), (.lst 0 true [])] []) []⟩,
  ⟨none, none, .op (.store 6) [.tmp 2, .tmp 99]⟩,
  ⟨some 3, none, .op .id [.val (.t (.int .i64 4))]⟩]
abbrev debuggerref33_Decode.r18 : List Ins := [⟨some 100, none, .op (.loadN 6) [.tmp 5]⟩,
  ⟨none, none, .op (.store 6) [.tmp 2, .tmp 100]⟩,
  ⟨some 3, none, .op .id [.val (.t (.int .i64 0))]⟩]
abbrev debuggerref33_Decode.body : Cd := (.seq (.rgn debuggerref33_Decode.r0) (.seq (.rgn debuggerref33_Decode.r1) (.seq (.block 0 (.seq (.rgn debuggerref33_Decode.r2) (.cond (.tmp 15) (.seq (.rgn debuggerref33_Decode.r3) .ret) (.seq (.rgnD debuggerref33_Decode.d0) (.cond (.tmp 20) (.seq (.rgn debuggerref33_Decode.r4) .ret) .skip))))) (.seq (.rgn debuggerref33_Decode.r5) (.seq (.rgn debuggerref33_Decode.r6) (.seq (.rgn debuggerref33_Decode.r7) (.seq (.seq (.rgn debuggerref33_Decode.r8) (.block 1 (.loop debuggerref33_Decode.l0))) (.seq (.rgnD debuggerref33_Decode.d1) (.seq (.rgn debuggerref33_Decode.r15) (.seq (.seq (.rgn debuggerref33_Decode.r16) (.cond (.tmp 98) (.seq (.rgn debuggerref33_Decode.r17) .ret) .skip)) (.seq (.rgn debuggerref33_Decode.r18) .ret)))))))))))
def debuggerref33_Decode.af : AF := ⟨1, 101, [.cell 2 6 false, .tmp 3], debuggerref33_Decode.body⟩
theorem debuggerref33_Decode.ok : cFunc PP [] Try.f35 = some debuggerref33_Decode.af := by kernel_rfl
theorem debuggerref33_Decode.intro {args : List V} {H : Heap} {Q : V → Heap → Prop} (hlen : args.length ≤ 101) (h : wpC (SCall PP) H.length debuggerref33_Decode.body (exitK H.length [.cell 2 6 false, .tmp 3] Q) ⟨initVs 0 args, H⟩) : SCall PP N.debuggerref33_Decode args H Q :=
  SCall.intro Try.func35 (by kernel_rfl) debuggerref33_Decode.ok hlen h
end Go.Proofs.Ytbpclinijbgchaa
