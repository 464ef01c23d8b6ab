/- The functions of package debuggerref01 as the code of the abstract machine. Written by a program of the session. -/
import Derived.Test.YtbpclinijbgchaaFn
namespace Go.Proofs.Ytbpclinijbgchaa
open Go Go.Abs
set_option maxRecDepth 100000
/-! ### debugger/debuggerref01.AppendUint -/
abbrev debuggerref01_AppendUint.r0 : List Ins := [⟨some 4, none, .op .id [.val (.t (.lst 0 true []))]⟩]
abbrev debuggerref01_AppendUint.r1 : List Ins := [⟨some 5, none, .op .id [.tmp 1]⟩,
  ⟨some 6, none, .op (.bin .lss) [.tmp 5, .val (.t (.int .i64 0))]⟩]
abbrev debuggerref01_AppendUint.r2 : List Ins := [⟨some 7, none, .op (.buildSlice 1 (.int .u8 0) 0 []) []⟩,
  ⟨some 8, none, .op .id [.tmp 0]⟩,
  ⟨some 9, none, .op (.append 1 1) [.tmp 7, .tmp 8]⟩,
  ⟨some 4, none, .op .id [.tmp 9]⟩]
abbrev debuggerref01_AppendUint.r3 : List Ins := [⟨some 10, none, .op .id [.tmp 0]⟩,
  ⟨some 11, none, .op .id [.tmp 1]⟩,
  ⟨some 12, none, .op (.conv .u64) [.tmp 11]⟩,
  ⟨some 13, none, .call N.debuggerref01_group [.tmp 10, .tmp 12]⟩,
  ⟨some 4, none, .op .id [.tmp 13]⟩]
abbrev debuggerref01_AppendUint.body : Cd := (.seq (.rgn debuggerref01_AppendUint.r0) (.seq (.seq (.rgn debuggerref01_AppendUint.r1) (.cond (.tmp 6) (.seq (.rgn debuggerref01_AppendUint.r2) .ret) .skip)) (.seq (.rgn debuggerref01_AppendUint.r3) .ret)))
def debuggerref01_AppendUint.af : AF := ⟨2, 14, [.tmp 4], debuggerref01_AppendUint.body⟩
theorem debuggerref01_AppendUint.ok : cFunc PP [] Try.f32 = some debuggerref01_AppendUint.af := by kernel_rfl
theorem debuggerref01_AppendUint.intro {args : List V} {H : Heap} {Q : V → Heap → Prop} (hlen : args.length ≤ 14) (h : wpC (SCall PP) H.length debuggerref01_AppendUint.body (exitK H.length [.tmp 4] Q) ⟨initVs 0 args, H⟩) : SCall PP N.debuggerref01_AppendUint args H Q :=
  SCall.intro Try.func32 (by kernel_rfl) debuggerref01_AppendUint.ok hlen h
/-! ### debugger/debuggerref01.group -/
abbrev debuggerref01_group.r0 : List Ins := [⟨some 4, none, .op .id [.val (.t (.lst 0 true []))]⟩]
abbrev debuggerref01_group.r1 : List Ins := [⟨some 6, none, .op (.buildSlice 1 (.int .u8 0) 0 []) []⟩,
  ⟨some 7, none, .op .id [.tmp 0]⟩,
  ⟨some 8, none, .op (.append 1 1) [.tmp 6, .tmp 7]⟩,
  ⟨some 5, none, .op .id [.tmp 8]⟩]
abbrev debuggerref01_group.r2 : List Ins := [⟨some 9, none, .op .id [.tmp 1]⟩,
  ⟨some 10, none, .op (.bin .geq) [.tmp 9, .val (.t (.int .u64 128))]⟩]
abbrev debuggerref01_group.r3 : List Ins := [⟨some 11, none, .op .id [.tmp 5]⟩,
  ⟨some 12, none, .op .id [.tmp 1]⟩,
  ⟨some 13, none, .op (.bin .rem) [.tmp 12, .val (.t (.int .u64 128))]⟩,
  ⟨some 14, none, .op (.conv .u8) [.tmp 13]⟩,
  ⟨some 15, none, .op (.bin .add) [.tmp 14, .val (.t (.int .u8 128))]⟩,
  ⟨some 16, none, .op (.buildSlice 1 (.int .u8 0) 1 [0]) [.tmp 15]⟩,
  ⟨some 17, none, .op (.append 1 1) [.tmp 11, .tmp 16]⟩,
  ⟨some 5, none, .op .id [.tmp 17]⟩]
abbrev debuggerref01_group.r4 : List Ins := [⟨some 18, none, .op .id [.tmp 1]⟩,
  ⟨some 19, none, .op (.bin .quo) [.tmp 18, .val (.t (.int .u64 128))]⟩,
  ⟨some 1, none, .op .id [.tmp 19]⟩]
abbrev debuggerref01_group.l0 : Cd := (.seq (.seq (.rgn debuggerref01_group.r2) (.cond (.tmp 10) .skip (.exit 0))) (.block 1 (.seq (.rgn debuggerref01_group.r3) (.rgn debuggerref01_group.r4))))
abbrev debuggerref01_group.r5 : List Ins := [⟨some 20, none, .op .id [.tmp 5]⟩,
  ⟨some 21, none, .op .id [.tmp 1]⟩,
  ⟨some 22, none, .op (.conv .u8) [.tmp 21]⟩,
  ⟨some 23, none, .op (.buildSlice 1 (.int .u8 0) 1 [0]) [.tmp 22]⟩,
  ⟨some 24, none, .op (.append 1 1) [.tmp 20, .tmp 23]⟩,
  ⟨some 4, none, .op .id [.tmp 24]⟩]
abbrev debuggerref01_group.body : Cd := (.seq (.rgn debuggerref01_group.r0) (.seq (.rgn debuggerref01_group.r1) (.seq (.block 0 (.loop debuggerref01_group.l0)) (.seq (.rgn debuggerref01_group.r5) .ret))))
def debuggerref01_group.af : AF := ⟨2, 25, [.tmp 4], debuggerref01_group.body⟩
theorem debuggerref01_group.ok : cFunc PP [] Try.f42 = some debuggerref01_group.af := by kernel_rfl
theorem debuggerref01_group.intro {args : List V} {H : Heap} {Q : V → Heap → Prop} (hlen : args.length ≤ 25) (h : wpC (SCall PP) H.length debuggerref01_group.body (exitK H.length [.tmp 4] Q) ⟨initVs 0 args, H⟩) : SCall PP N.debuggerref01_group args H Q :=
  SCall.intro Try.func42 (by kernel_rfl) debuggerref01_group.ok hlen h
/-! ### debugger/debuggerref01.Uint -/
abbrev debuggerref01_Uint.r0 : List Ins := [⟨some 4, none, .op .id [.val (.t (.int .i64 0))]⟩,
  ⟨some 5, none, .op .id [.val (.t (.int .i64 0))]⟩,
  ⟨some 6, none, .op .id [.val (.t (.int .i64 0))]⟩]
abbrev debuggerref01_Uint.r1 : List Ins := [⟨some 11, none, .op .id [.tmp 0]⟩,
  ⟨some 12, none, .op .id [.tmp 1]⟩,
  ⟨some 13, none, .call N.debuggerref01_number [.tmp 11, .tmp 12, .val (.t (.int .i64 9)), .val (.t (.int .u8 127))]⟩,
  ⟨some 10, none, .op .id [.tmp 13]⟩,
  ⟨some 14, none, .op (.extract 0) [.tmp 10]⟩,
  ⟨some 15, none, .op (.extract 1) [.tmp 10]⟩,
  ⟨some 16, none, .op (.extract 2) [.tmp 10]⟩,
  ⟨some 7, none, .op .id [.tmp 14]⟩,
  ⟨some 8, none, .op .id [.tmp 15]⟩,
  ⟨some 9, none, .op .id [.tmp 16]⟩]
abbrev debuggerref01_Uint.r2 : List Ins := [⟨some 17, none, .op .id [.tmp 7]⟩,
  ⟨some 18, none, .op (.conv .i64) [.tmp 17]⟩,
  ⟨some 19, none, .op .id [.tmp 8]⟩,
  ⟨some 20, none, .op .id [.tmp 9]⟩,
  ⟨some 4, none, .op .id [.tmp 18]⟩,
  ⟨some 5, none, .op .id [.tmp 19]⟩,
  ⟨some 6, none, .op .id [.tmp 20]⟩]
abbrev debuggerref01_Uint.body : Cd := (.seq (.rgn debuggerref01_Uint.r0) (.seq (.rgn debuggerref01_Uint.r1) (.seq (.rgn debuggerref01_Uint.r2) .ret)))
def debuggerref01_Uint.af : AF := ⟨2, 21, [.tmp 4, .tmp 5, .tmp 6], debuggerref01_Uint.body⟩
theorem debuggerref01_Uint.ok : cFunc PP [] Try.f44 = some debuggerref01_Uint.af := by kernel_rfl
theorem debuggerref01_Uint.intro {args : List V} {H : Heap} {Q : V → Heap → Prop} (hlen : args.length ≤ 21) (h : wpC (SCall PP) H.length debuggerref01_Uint.body (exitK H.length [.tmp 4, .tmp 5, .tmp 6] Q) ⟨initVs 0 args, H⟩) : SCall PP N.debuggerref01_Uint args H Q :=
  SCall.intro Try.func44 (by kernel_rfl) debuggerref01_Uint.ok hlen h
/-! ### debugger/debuggerref01.number -/
abbrev debuggerref01_number.r0 : List Ins := [⟨some 8, none, .op .id [.val (.t (.int .u64 0))]⟩,
  ⟨some 9, none, .op .id [.val (.t (.int .i64 0))]⟩,
  ⟨some 10, none, .op .id [.val (.t (.int .i64 0))]⟩]
abbrev debuggerref01_number.r1 : List Ins := [⟨some 14, none, .op .id [.tmp 1]⟩,
  ⟨some 15, none, .op (.bin .lss) [.tmp 14, .val (.t (.int .i64 0))]⟩,
  ⟨some 16, none, .op .id [.tmp 15]⟩,
  ⟨some 17, some (16, false), .op .id [.tmp 1]⟩,
  ⟨some 18, some (16, false), .op .id [.tmp 0]⟩,
  ⟨some 19, some (16, false), .op .len [.tmp 18]⟩,
  ⟨some 20, some (16, false), .op (.bin .gtr) [.tmp 17, .tmp 19]⟩,
  ⟨some 21, none, .op .pick [.tmp 16, .val (.t (.bool true)), .tmp 20]⟩]
abbrev debuggerref01_number.r2 : List Ins := [⟨some 8, none, .op .id [.val (.t (.int .u64 0))]⟩,
  ⟨some 9, none, .op .id [.val (.t (.int .i64 0))]⟩,
  ⟨some 10, none, .op .id [.val (.t (.int .i64 1))]⟩]
abbrev debuggerref01_number.r3 : List Ins := [⟨some 11, none, .op .id [.val (.t (.int .u64 0))]⟩]
abbrev debuggerref01_number.r4 : List Ins := [⟨some 12, none, .op .id [.val (.t (.int .i64 0))]⟩]
abbrev debuggerref01_number.r5 : List Ins := [⟨some 24, none, .op .id [.tmp 1]⟩,
  ⟨some 25, none, .op .id [.tmp 12]⟩,
  ⟨some 26, none, .op (.bin .add) [.tmp 24, .tmp 25]⟩,
  ⟨some 27, none, .op .id [.tmp 0]⟩,
  ⟨some 28, none, .op .len [.tmp 27]⟩,
  ⟨some 29, none, .op (.bin .geq) [.tmp 26, .tmp 28]⟩]
abbrev debuggerref01_number.r6 : List Ins := [⟨some 8, none, .op .id [.val (.t (.int .u64 0))]⟩,
  ⟨some 9, none, .op .id [.val (.t (.int .i64 0))]⟩,
  ⟨some 10, none, .op .id [.val (.t (.int .i64 3))]⟩]
abbrev debuggerref01_number.r7 : List Ins := [⟨some 30, none, .op .id [.tmp 0]⟩,
  ⟨some 31, none, .op .id [.tmp 1]⟩,
  ⟨some 32, none, .op .id [.tmp 12]⟩,
  ⟨some 33, none, .op (.bin .add) [.tmp 31, .tmp 32]⟩,
  ⟨some 34, none, .op (.idxS 1) [.tmp 30, .tmp 33]⟩,
  ⟨some 35, none, .op .load1 [.tmp 34]⟩,
  ⟨some 13, none, .op .id [.tmp 35]⟩]
abbrev debuggerref01_number.r8 : List Ins := [⟨some 36, none, .op .id [.tmp 12]⟩,
  ⟨some 37, none, .op .id [.tmp 2]⟩,
  ⟨some 38, none, .op (.bin .sub) [.tmp 37, .val (.t (.int .i64 1))]⟩,
  ⟨some 39, none, .op (.bin .eql) [.tmp 36, .tmp 38]⟩,
  ⟨some 40, none, .op .id [.tmp 39]⟩,
  ⟨some 41, some (40, true), .op .id [.tmp 13]⟩,
  ⟨some 42, some (40, true), .op .id [.tmp 3]⟩,
  ⟨some 43, some (40, true), .op (.bin .gtr) [.tmp 41, .tmp 42]⟩,
  ⟨some 44, none, .op .pick [.tmp 40, .tmp 43, .val (.t (.bool false))]⟩]
abbrev debuggerref01_number.r9 : List Ins := [⟨some 8, none, .op .id [.val (.t (.int .u64 0))]⟩,
  ⟨some 9, none, .op .id [.val (.t (.int .i64 0))]⟩,
  ⟨some 10, none, .op .id [.val (.t (.int .i64 2))]⟩]
abbrev debuggerref01_number.r10 : List Ins := [⟨some 45, none, .op .id [.tmp 13]⟩,
  ⟨some 46, none, .op (.bin .eql) [.tmp 45, .val (.t (.int .u8 0))]⟩,
  ⟨some 47, none, .op .id [.tmp 46]⟩,
  ⟨some 48, some (47, true), .op .id [.tmp 12]⟩,
  ⟨some 49, some (47, true), .op (.bin .gtr) [.tmp 48, .val (.t (.int .i64 0))]⟩,
  ⟨some 50, none, .op .pick [.tmp 47, .tmp 49, .val (.t (.bool false))]⟩]
abbrev debuggerref01_number.r11 : List Ins := [⟨some 8, none, .op .id [.val (.t (.int .u64 0))]⟩,
  ⟨some 9, none, .op .id [.val (.t (.int .i64 0))]⟩,
  ⟨some 10, none, .op .id [.val (.t (.int .i64 4))]⟩]
abbrev debuggerref01_number.r12 : List Ins := [⟨some 51, none, .op .id [.tmp 11]⟩,
  ⟨some 52, none, .op .id [.tmp 13]⟩,
  ⟨some 53, none, .op (.bin .rem) [.tmp 52, .val (.t (.int .u8 128))]⟩,
  ⟨some 54, none, .op (.conv .u64) [.tmp 53]⟩,
  ⟨some 55, none, .op .id [.tmp 12]⟩,
  ⟨some 56, none, .op (.bin .mul) [.val (.t (.int .i64 7)), .tmp 55]⟩,
  ⟨some 57, none, .op (.conv .u64) [.tmp 56]⟩,
  ⟨some 58, none, .op (.bin .shl) [.tmp 54, .tmp 57]⟩,
  ⟨some 59, none, .op (.bin .or) [.tmp 51, .tmp 58]⟩,
  ⟨some 11, none, .op .id [.tmp 59]⟩]
abbrev debuggerref01_number.r13 : List Ins := [⟨some 60, none, .op .id [.tmp 13]⟩,
  ⟨some 61, none, .op (.bin .lss) [.tmp 60, .val (.t (.int .u8 128))]⟩]
abbrev debuggerref01_number.r14 : List Ins := [⟨some 62, none, .op .id [.tmp 11]⟩,
  ⟨some 63, none, .op .id [.tmp 1]⟩,
  ⟨some 64, none, .op .id [.tmp 12]⟩,
  ⟨some 65, none, .op (.bin .add) [.tmp 63, .tmp 64]⟩,
  ⟨some 66, none, .op (.bin .add) [.tmp 65, .val (.t (.int .i64 1))]⟩,
  ⟨some 8, none, .op .id [.tmp 62]⟩,
  ⟨some 9, none, .op .id [.tmp 66]⟩,
  ⟨some 10, none, .op .id [.val (.t (.int .i64 0))]⟩]
abbrev debuggerref01_number.r15 : List Ins := [⟨some 22, none, .op .id [.tmp 12]⟩,
  ⟨some 23, none, .op (.bin .add) [.tmp 22, .val (.t (.int .i64 1))]⟩,
  ⟨some 12, none, .op .id [.tmp 23]⟩]
abbrev debuggerref01_number.l0 : Cd := (.seq (.block 1 (.seq (.seq (.rgn debuggerref01_number.r5) (.cond (.tmp 29) (.seq (.rgn debuggerref01_number.r6) .ret) .skip)) (.seq (.rgn debuggerref01_number.r7) (.seq (.seq (.rgn debuggerref01_number.r8) (.cond (.tmp 44) (.seq (.rgn debuggerref01_number.r9) .ret) .skip)) (.seq (.seq (.rgn debuggerref01_number.r10) (.cond (.tmp 50) (.seq (.rgn debuggerref01_number.r11) .ret) .skip)) (.seq (.rgn debuggerref01_number.r12) (.seq (.rgn debuggerref01_number.r13) (.cond (.tmp 61) (.seq (.rgn debuggerref01_number.r14) .ret) .skip)))))))) (.rgn debuggerref01_number.r15))
abbrev debuggerref01_number.body : Cd := (.seq (.rgn debuggerref01_number.r0) (.seq (.seq (.rgn debuggerref01_number.r1) (.cond (.tmp 21) (.seq (.rgn debuggerref01_number.r2) .ret) .skip)) (.seq (.rgn debuggerref01_number.r3) (.seq (.rgn debuggerref01_number.r4) (.block 0 (.loop debuggerref01_number.l0))))))
def debuggerref01_number.af : AF := ⟨4, 67, [.tmp 8, .tmp 9, .tmp 10], debuggerref01_number.body⟩
theorem debuggerref01_number.ok : cFunc PP [] Try.f49 = some debuggerref01_number.af := by kernel_rfl
theorem debuggerref01_number.intro {args : List V} {H : Heap} {Q : V → Heap → Prop} (hlen : args.length ≤ 67) (h : wpC (SCall PP) H.length debuggerref01_number.body (exitK H.length [.tmp 8, .tmp 9, .tmp 10] Q) ⟨initVs 0 args, H⟩) : SCall PP N.debuggerref01_number args H Q :=
  SCall.intro Try.func49 (by kernel_rfl) debuggerref01_number.ok hlen h
end Go.Proofs.Ytbpclinijbgchaa
