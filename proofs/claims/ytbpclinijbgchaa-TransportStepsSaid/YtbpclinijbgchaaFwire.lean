/- The functions of package wire as the code of the abstract machine. Written by a program of the session. -/
import Derived.Test.YtbpclinijbgchaaFn
namespace Go.Proofs.Ytbpclinijbgchaa
open Go Go.Abs
set_option maxRecDepth 100000
/-! ### debugger/wire.AppendUint -/
abbrev wire_AppendUint.r0 : List Ins := [⟨some 4, none, .op .id [.val (.t (.lst 0 true []))]⟩]
abbrev wire_AppendUint.r1 : List Ins := [⟨some 5, none, .op .id [.tmp 1]⟩,
  ⟨some 6, none, .op (.bin .lss) [.tmp 5, .val (.t (.int .i64 0))]⟩]
abbrev wire_AppendUint.r2 : List Ins := [⟨some 7, none, .op .id [.tmp 0]⟩,
  ⟨some 8, none, .op (.append 1 1) [.val (.t (.lst 0 true [])), .tmp 7]⟩,
  ⟨some 4, none, .op .id [.tmp 8]⟩]
abbrev wire_AppendUint.r3 : List Ins := [⟨some 9, none, .op .id [.tmp 0]⟩,
  ⟨some 10, none, .op .id [.tmp 1]⟩,
  ⟨some 11, none, .op (.conv .u64) [.tmp 10]⟩,
  ⟨some 12, none, .call N.wire_appendGroups [.tmp 9, .tmp 11]⟩,
  ⟨some 4, none, .op .id [.tmp 12]⟩]
abbrev wire_AppendUint.body : Cd := (.seq (.rgn wire_AppendUint.r0) (.seq (.seq (.rgn wire_AppendUint.r1) (.cond (.tmp 6) (.seq (.rgn wire_AppendUint.r2) .ret) .skip)) (.seq (.rgn wire_AppendUint.r3) .ret)))
def wire_AppendUint.af : AF := ⟨2, 13, [.tmp 4], wire_AppendUint.body⟩
theorem wire_AppendUint.ok : cFunc PP [] Try.f40 = some wire_AppendUint.af := by kernel_rfl
theorem wire_AppendUint.intro {args : List V} {H : Heap} {Q : V → Heap → Prop} (hlen : args.length ≤ 13) (h : wpC (SCall PP) H.length wire_AppendUint.body (exitK H.length [.tmp 4] Q) ⟨initVs 0 args, H⟩) : SCall PP N.wire_AppendUint args H Q :=
  SCall.intro Try.func40 (by kernel_rfl) wire_AppendUint.ok hlen h
/-! ### debugger/wire.appendGroups -/
abbrev wire_appendGroups.r0 : List Ins := [⟨some 4, none, .op .id [.val (.t (.lst 0 true []))]⟩]
abbrev wire_appendGroups.r1 : List Ins := [⟨some 6, none, .op .id [.tmp 0]⟩,
  ⟨some 7, none, .op .len [.tmp 6]⟩,
  ⟨some 8, none, .op (.bin .add) [.tmp 7, .val (.t (.int .i64 9))]⟩,
  ⟨some 9, none, .op (.bin .add) [.tmp 8, .val (.t (.int .i64 1))]⟩,
  ⟨some 10, none, .op (.makeSlice 1 1 (.int .u8 0)) [.val (.t (.int .i64 0)), .tmp 9]⟩,
  ⟨some 11, none, .op .id [.tmp 0]⟩,
  ⟨some 12, none, .op (.append 1 1) [.tmp 10, .tmp 11]⟩,
  ⟨some 5, none, .op .id [.tmp 12]⟩]
abbrev wire_appendGroups.r2 : List Ins := [⟨some 13, none, .op .id [.tmp 1]⟩,
  ⟨some 14, none, .op (.bin .geq) [.tmp 13, .val (.t (.int .u64 128))]⟩]
abbrev wire_appendGroups.r3 : List Ins := [⟨some 17, none, .op .id [.tmp 5]⟩,
  ⟨some 18, none, .op .id [.tmp 1]⟩,
  ⟨some 19, none, .op (.conv .u8) [.tmp 18]⟩,
  ⟨some 20, none, .op (.bin .or) [.tmp 19, .val (.t (.int .u8 128))]⟩,
  ⟨some 21, none, .op (.buildSlice 1 (.int .u8 0) 1 [0]) [.tmp 20]⟩,
  ⟨some 22, none, .op (.append 1 1) [.tmp 17, .tmp 21]⟩,
  ⟨some 5, none, .op .id [.tmp 22]⟩]
abbrev wire_appendGroups.r4 : List Ins := [⟨some 15, none, .op .id [.tmp 1]⟩,
  ⟨some 16, none, .op (.bin .shr) [.tmp 15, .val (.t (.int .u64 7))]⟩,
  ⟨some 1, none, .op .id [.tmp 16]⟩]
abbrev wire_appendGroups.l0 : Cd := (.seq (.seq (.rgn wire_appendGroups.r2) (.cond (.tmp 14) .skip (.exit 0))) (.seq (.block 1 (.rgn wire_appendGroups.r3)) (.rgn wire_appendGroups.r4)))
abbrev wire_appendGroups.r5 : List Ins := [⟨some 23, none, .op .id [.tmp 5]⟩,
  ⟨some 24, none, .op .id [.tmp 1]⟩,
  ⟨some 25, none, .op (.conv .u8) [.tmp 24]⟩,
  ⟨some 26, none, .op (.buildSlice 1 (.int .u8 0) 1 [0]) [.tmp 25]⟩,
  ⟨some 27, none, .op (.append 1 1) [.tmp 23, .tmp 26]⟩,
  ⟨some 4, none, .op .id [.tmp 27]⟩]
abbrev wire_appendGroups.body : Cd := (.seq (.rgn wire_appendGroups.r0) (.seq (.rgn wire_appendGroups.r1) (.seq (.block 0 (.loop wire_appendGroups.l0)) (.seq (.rgn wire_appendGroups.r5) .ret))))
def wire_appendGroups.af : AF := ⟨2, 28, [.tmp 4], wire_appendGroups.body⟩
theorem wire_appendGroups.ok : cFunc PP [] Try.f47 = some wire_appendGroups.af := by kernel_rfl
theorem wire_appendGroups.intro {args : List V} {H : Heap} {Q : V → Heap → Prop} (hlen : args.length ≤ 28) (h : wpC (SCall PP) H.length wire_appendGroups.body (exitK H.length [.tmp 4] Q) ⟨initVs 0 args, H⟩) : SCall PP N.wire_appendGroups args H Q :=
  SCall.intro Try.func47 (by kernel_rfl) wire_appendGroups.ok hlen h
/-! ### debugger/wire.Uint -/
abbrev wire_Uint.r0 : List Ins := [⟨some 4, none, .op .id [.val (.t (.int .i64 0))]⟩,
  ⟨some 5, none, .op .id [.val (.t (.int .i64 0))]⟩,
  ⟨some 6, none, .op .id [.val (.t (.int .i64 0))]⟩]
abbrev wire_Uint.r1 : List Ins := [⟨some 11, none, .op .id [.tmp 0]⟩,
  ⟨some 12, none, .op .id [.tmp 1]⟩,
  ⟨some 13, none, .call N.wire_groups [.tmp 11, .tmp 12, .val (.fn N.wire_Uint_1 [])]⟩,
  ⟨some 10, none, .op .id [.tmp 13]⟩,
  ⟨some 14, none, .op (.extract 0) [.tmp 10]⟩,
  ⟨some 15, none, .op (.extract 1) [.tmp 10]⟩,
  ⟨some 16, none, .op (.extract 2) [.tmp 10]⟩,
  ⟨some 7, none, .op .id [.tmp 14]⟩,
  ⟨some 8, none, .op .id [.tmp 15]⟩,
  ⟨some 9, none, .op .id [.tmp 16]⟩]
abbrev wire_Uint.r2 : List Ins := [⟨some 17, none, .op .id [.tmp 7]⟩,
  ⟨some 18, none, .op (.conv .i64) [.tmp 17]⟩,
  ⟨some 19, none, .op .id [.tmp 8]⟩,
  ⟨some 20, none, .op .id [.tmp 9]⟩,
  ⟨some 4, none, .op .id [.tmp 18]⟩,
  ⟨some 5, none, .op .id [.tmp 19]⟩,
  ⟨some 6, none, .op .id [.tmp 20]⟩]
abbrev wire_Uint.body : Cd := (.seq (.rgn wire_Uint.r0) (.seq (.rgn wire_Uint.r1) (.seq (.rgn wire_Uint.r2) .ret)))
def wire_Uint.af : AF := ⟨2, 21, [.tmp 4, .tmp 5, .tmp 6], wire_Uint.body⟩
theorem wire_Uint.ok : cFunc PP [] Try.f48 = some wire_Uint.af := by kernel_rfl
theorem wire_Uint.intro {args : List V} {H : Heap} {Q : V → Heap → Prop} (hlen : args.length ≤ 21) (h : wpC (SCall PP) H.length wire_Uint.body (exitK H.length [.tmp 4, .tmp 5, .tmp 6] Q) ⟨initVs 0 args, H⟩) : SCall PP N.wire_Uint args H Q :=
  SCall.intro Try.func48 (by kernel_rfl) wire_Uint.ok hlen h
/-! ### debugger/wire.groups -/
abbrev wire_groups.r0 : List Ins := [⟨some 6, none, .op .id [.val (.t (.int .u64 0))]⟩,
  ⟨some 7, none, .op .id [.val (.t (.int .i64 0))]⟩,
  ⟨some 8, none, .op .id [.val (.t (.int .i64 0))]⟩]
abbrev wire_groups.r1 : List Ins := [⟨some 12, none, .op .id [.tmp 1]⟩,
  ⟨some 13, none, .op (.bin .lss) [.tmp 12, .val (.t (.int .i64 0))]⟩,
  ⟨some 14, none, .op .id [.tmp 13]⟩,
  ⟨some 15, some (14, false), .op .id [.tmp 1]⟩,
  ⟨some 16, some (14, false), .op .id [.tmp 0]⟩,
  ⟨some 17, some (14, false), .op .len [.tmp 16]⟩,
  ⟨some 18, some (14, false), .op (.bin .gtr) [.tmp 15, .tmp 17]⟩,
  ⟨some 19, none, .op .pick [.tmp 14, .val (.t (.bool true)), .tmp 18]⟩]
abbrev wire_groups.r2 : List Ins := [⟨some 6, none, .op .id [.val (.t (.int .u64 0))]⟩,
  ⟨some 7, none, .op .id [.val (.t (.int .i64 0))]⟩,
  ⟨some 8, none, .op .id [.val (.t (.int .i64 1))]⟩]
abbrev wire_groups.r3 : List Ins := [⟨some 9, none, .op .id [.val (.t (.int .u64 0))]⟩]
abbrev wire_groups.r4 : List Ins := [⟨some 20, none, .op .id [.tmp 0]⟩,
  ⟨some 21, none, .op .id [.tmp 1]⟩,
  ⟨some 22, none, .op (.slice 1 true false) [.tmp 20, .tmp 21]⟩,
  ⟨some 23, none, .op .len [.tmp 22]⟩,
  ⟨some 24, none, .op .id [.val (.t (.int .i64 0))]⟩]
abbrev wire_groups.r5 : List Ins := [⟨some 25, none, .op (.bin .lss) [.tmp 24, .tmp 23]⟩]
abbrev wire_groups.r6 : List Ins := [⟨some 26, none, .op .id [.tmp 24]⟩,
  ⟨some 27, none, .op (.idxS 1) [.tmp 22, .tmp 24]⟩,
  ⟨some 28, none, .op .load1 [.tmp 27]⟩,
  ⟨some 10, none, .op .id [.tmp 26]⟩,
  ⟨some 11, none, .op .id [.tmp 28]⟩]
abbrev wire_groups.r7 : List Ins := [⟨some 30, none, .op .id [.tmp 2]⟩,
  ⟨some 31, none, .op .id [.tmp 10]⟩,
  ⟨some 32, none, .op .id [.tmp 11]⟩,
  ⟨some 33, none, .callv (.tmp 30) [.tmp 31, .tmp 32]⟩,
  ⟨some 29, none, .op .id [.tmp 33]⟩]
abbrev wire_groups.r8 : List Ins := [⟨some 6, none, .op .id [.val (.t (.int .u64 0))]⟩,
  ⟨some 7, none, .op .id [.val (.t (.int .i64 0))]⟩,
  ⟨some 8, none, .op .id [.val (.t (.int .i64 2))]⟩]
abbrev wire_groups.r9 : List Ins := [⟨some 35, none, .op .id [.tmp 11]⟩,
  ⟨some 36, none, .op (.bin .eql) [.tmp 35, .val (.t (.int .u8 0))]⟩,
  ⟨some 37, none, .op .id [.tmp 36]⟩,
  ⟨some 38, some (37, true), .op .id [.tmp 10]⟩,
  ⟨some 39, some (37, true), .op (.bin .gtr) [.tmp 38, .val (.t (.int .i64 0))]⟩,
  ⟨some 40, none, .op .pick [.tmp 37, .tmp 39, .val (.t (.bool false))]⟩,
  ⟨some 34, none, .op .id [.tmp 40]⟩]
abbrev wire_groups.r10 : List Ins := [⟨some 6, none, .op .id [.val (.t (.int .u64 0))]⟩,
  ⟨some 7, none, .op .id [.val (.t (.int .i64 0))]⟩,
  ⟨some 8, none, .op .id [.val (.t (.int .i64 4))]⟩]
abbrev wire_groups.r11 : List Ins := [⟨some 41, none, .op .id [.tmp 9]⟩,
  ⟨some 42, none, .op .id [.tmp 11]⟩,
  ⟨some 43, none, .op (.bin .and) [.tmp 42, .val (.t (.int .u8 127))]⟩,
  ⟨some 44, none, .op (.conv .u64) [.tmp 43]⟩,
  ⟨some 45, none, .op .id [.tmp 10]⟩,
  ⟨some 46, none, .op (.bin .mul) [.val (.t (.int .i64 7)), .tmp 45]⟩,
  ⟨some 47, none, .op (.bin .shl) [.tmp 44, .tmp 46]⟩,
  ⟨some 48, none, .op (.bin .or) [.tmp 41, .tmp 47]⟩,
  ⟨some 9, none, .op .id [.tmp 48]⟩]
abbrev wire_groups.r12 : List Ins := [⟨some 49, none, .op .id [.tmp 11]⟩,
  ⟨some 50, none, .op (.bin .lss) [.tmp 49, .val (.t (.int .u8 128))]⟩]
abbrev wire_groups.r13 : List Ins := [⟨some 51, none, .op .id [.tmp 9]⟩,
  ⟨some 52, none, .op .id [.tmp 1]⟩,
  ⟨some 53, none, .op .id [.tmp 10]⟩,
  ⟨some 54, none, .op (.bin .add) [.tmp 52, .tmp 53]⟩,
  ⟨some 55, none, .op (.bin .add) [.tmp 54, .val (.t (.int .i64 1))]⟩,
  ⟨some 6, none, .op .id [.tmp 51]⟩,
  ⟨some 7, none, .op .id [.tmp 55]⟩,
  ⟨some 8, none, .op .id [.val (.t (.int .i64 0))]⟩]
abbrev wire_groups.r14 : List Ins := [⟨some 56, none, .op (.bin .add) [.tmp 24, .val (.t (.int .i64 1))]⟩,
  ⟨some 24, none, .op .id [.tmp 56]⟩]
abbrev wire_groups.l0 : Cd := (.seq (.rgn wire_groups.r5) (.seq (.cond (.tmp 25) .skip (.exit 0)) (.seq (.block 1 (.seq (.rgn wire_groups.r6) (.seq (.block 2 (.seq (.rgn wire_groups.r7) (.cond (.tmp 29) (.seq (.rgn wire_groups.r8) .ret) (.seq (.rgn wire_groups.r9) (.cond (.tmp 34) (.seq (.rgn wire_groups.r10) .ret) .skip))))) (.seq (.rgn wire_groups.r11) (.seq (.rgn wire_groups.r12) (.cond (.tmp 50) (.seq (.rgn wire_groups.r13) .ret) .skip)))))) (.rgn wire_groups.r14))))
abbrev wire_groups.r15 : List Ins := [⟨some 6, none, .op .id [.val (.t (.int .u64 0))]⟩,
  ⟨some 7, none, .op .id [.val (.t (.int .i64 0))]⟩,
  ⟨some 8, none, .op .id [.val (.t (.int .i64 3))]⟩]
abbrev wire_groups.body : Cd := (.seq (.rgn wire_groups.r0) (.seq (.seq (.rgn wire_groups.r1) (.cond (.tmp 19) (.seq (.rgn wire_groups.r2) .ret) .skip)) (.seq (.rgn wire_groups.r3) (.seq (.seq (.rgn wire_groups.r4) (.block 0 (.loop wire_groups.l0))) (.seq (.rgn wire_groups.r15) .ret)))))
def wire_groups.af : AF := ⟨3, 57, [.tmp 6, .tmp 7, .tmp 8], wire_groups.body⟩
theorem wire_groups.ok : cFunc PP [] Try.f50 = some wire_groups.af := by kernel_rfl
theorem wire_groups.intro {args : List V} {H : Heap} {Q : V → Heap → Prop} (hlen : args.length ≤ 57) (h : wpC (SCall PP) H.length wire_groups.body (exitK H.length [.tmp 6, .tmp 7, .tmp 8] Q) ⟨initVs 0 args, H⟩) : SCall PP N.wire_groups args H Q :=
  SCall.intro Try.func50 (by kernel_rfl) wire_groups.ok hlen h
/-! ### debugger/wire.Uint$1 -/
abbrev wire_Uint_1.r0 : List Ins := [⟨some 4, none, .op .id [.val (.t (.bool false))]⟩]
abbrev wire_Uint_1.r1 : List Ins := [⟨some 5, none, .op .id [.tmp 0]⟩,
  ⟨some 6, none, .op (.bin .eql) [.tmp 5, .val (.t (.int .i64 8))]⟩,
  ⟨some 7, none, .op .id [.tmp 6]⟩,
  ⟨some 8, some (7, true), .op .id [.tmp 1]⟩,
  ⟨some 9, some (7, true), .op (.bin .geq) [.tmp 8, .val (.t (.int .u8 128))]⟩,
  ⟨some 10, none, .op .pick [.tmp 7, .tmp 9, .val (.t (.bool false))]⟩,
  ⟨some 4, none, .op .id [.tmp 10]⟩]
abbrev wire_Uint_1.body : Cd := (.seq (.rgn wire_Uint_1.r0) (.seq (.rgn wire_Uint_1.r1) .ret))
def wire_Uint_1.af : AF := ⟨2, 11, [.tmp 4], wire_Uint_1.body⟩
theorem wire_Uint_1.ok : cFunc PP [] Try.f51 = some wire_Uint_1.af := by kernel_rfl
theorem wire_Uint_1.intro {args : List V} {H : Heap} {Q : V → Heap → Prop} (hlen : args.length ≤ 11) (h : wpC (SCall PP) H.length wire_Uint_1.body (exitK H.length [.tmp 4] Q) ⟨initVs 0 args, H⟩) : SCall PP N.wire_Uint_1 args H Q :=
  SCall.intro Try.func51 (by kernel_rfl) wire_Uint_1.ok hlen h
end Go.Proofs.Ytbpclinijbgchaa
