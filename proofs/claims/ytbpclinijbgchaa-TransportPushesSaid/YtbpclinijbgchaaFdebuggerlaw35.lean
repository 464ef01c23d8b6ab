/- The functions of package debuggerlaw35 as the code of the abstract machine. Written by a program of the session. -/
import Derived.Test.YtbpclinijbgchaaFn
namespace Go.Proofs.Ytbpclinijbgchaa
open Go Go.Abs
set_option maxRecDepth 100000
/-! ### debugger/debuggerlaw35.TransportSteps -/
/-! ### debugger/debuggerlaw35.TransportPushes -/
abbrev debuggerlaw35_TransportPushes.r0 : List Ins := [⟨some 3, none, .op .box [.tmp 0]⟩,
  ⟨some 6, none, .op .id [.val (.t (.bool false))]⟩]
abbrev debuggerlaw35_TransportPushes.r1 : List Ins := [⟨some 11, none, .op (.fieldA 6) [.tmp 3]⟩,
  ⟨some 12, none, .op .load1 [.tmp 11]⟩,
  ⟨some 13, none, .call N.debuggerlaw35_large [.tmp 12]⟩,
  ⟨some 14, none, .op .id [.tmp 13]⟩,
  ⟨some 15, some (14, false), .op .id [.tmp 1]⟩,
  ⟨some 16, some (14, false), .op .len [.tmp 15]⟩,
  ⟨some 17, some (14, false), .op (.bin .gtr) [.tmp 16, .val (.t (.int .i64 300))]⟩,
  ⟨some 18, none, .op .pick [.tmp 14, .val (.t (.bool true)), .tmp 17]⟩]
abbrev debuggerlaw35_TransportPushes.r2 : List Ins := [⟨some 19, none, .call N.debuggerlaw35_awake []⟩,
  ⟨some 6, none, .op .id [.tmp 19]⟩]
abbrev debuggerlaw35_TransportPushes.r3 : List Ins := [⟨some 20, none, .op .id [.tmp 2]⟩]
abbrev debuggerlaw35_TransportPushes.r4 : List Ins := [⟨some 21, none, .op .id [.tmp 1]⟩,
  ⟨some 22, none, .op .len [.tmp 21]⟩,
  ⟨some 23, none, .op (.bin .rem) [.tmp 22, .val (.t (.int .i64 2))]⟩,
  ⟨some 24, none, .op (.bin .add) [.val (.t (.int .i64 6001)), .tmp 23]⟩,
  ⟨some 25, none, .op (.bin .sub) [.tmp 24, .val (.t (.int .i64 1))]⟩,
  ⟨some 26, none, .op (.makeSlice 1 1 (.int .u8 0)) [.tmp 25, .tmp 25]⟩,
  ⟨some 1, none, .op .id [.tmp 26]⟩]
abbrev debuggerlaw35_TransportPushes.r5 : List Ins := [⟨some 28, none, .op (.loadN 8) [.tmp 3]⟩,
  ⟨some 29, none, .op .id [.tmp 1]⟩,
  ⟨some 30, none, .call N.transport_Push [.tmp 28, .tmp 29]⟩,
  ⟨some 27, none, .op .id [.tmp 30]⟩,
  ⟨some 31, none, .op (.extract 0) [.tmp 27]⟩,
  ⟨some 32, none, .op (.extract 1) [.tmp 27]⟩,
  ⟨some 7, none, .op (.alloc [(.int .i64 0), (.int .i64 0), (.int .i64 0), (.int .i64 0), (.int .i64 0), (.int .i64 0), (.lst 0 true []), (.bool false)]) []⟩,
  ⟨none, none, .op (.store 8) [.tmp 7, .tmp 31]⟩,
  ⟨some 8, none, .op .id [.tmp 32]⟩]
abbrev debuggerlaw35_TransportPushes.r6 : List Ins := [⟨some 34, none, .op (.loadN 8) [.tmp 3]⟩,
  ⟨some 35, none, .op .id [.tmp 1]⟩,
  ⟨some 36, none, .call N.debuggerref35_Push [.tmp 34, .tmp 35]⟩,
  ⟨some 33, none, .op .id [.tmp 36]⟩,
  ⟨some 37, none, .op (.extract 0) [.tmp 33]⟩,
  ⟨some 38, none, .op (.extract 1) [.tmp 33]⟩,
  ⟨some 9, none, .op (.alloc [(.int .i64 0), (.int .i64 0), (.int .i64 0), (.int .i64 0), (.int .i64 0), (.int .i64 0), (.lst 0 true []), (.bool false)]) []⟩,
  ⟨none, none, .op (.store 8) [.tmp 9, .tmp 37]⟩,
  ⟨some 10, none, .op .id [.tmp 38]⟩]
abbrev debuggerlaw35_TransportPushes.r7 : List Ins := [⟨some 39, none, .op .id [.tmp 8]⟩,
  ⟨some 40, none, .op .id [.tmp 10]⟩,
  ⟨some 41, none, .op (.bin .eql) [.tmp 39, .tmp 40]⟩,
  ⟨some 42, none, .op .id [.tmp 41]⟩,
  ⟨some 43, some (42, true), .op (.loadN 8) [.tmp 7]⟩,
  ⟨some 44, some (42, true), .op (.loadN 8) [.tmp 9]⟩,
  ⟨some 45, some (42, true), .call N.debuggerlaw35_same [.tmp 43, .tmp 44]⟩,
  ⟨some 46, none, .op .pick [.tmp 42, .tmp 45, .val (.t (.bool false))]⟩,
  ⟨some 47, none, .op .id [.tmp 46]⟩,
  ⟨some 48, some (47, true), .call N.debuggerlaw35_awake []⟩,
  ⟨some 49, none, .op .pick [.tmp 47, .tmp 48, .val (.t (.bool false))]⟩,
  ⟨some 6, none, .op .id [.tmp 49]⟩]
abbrev debuggerlaw35_TransportPushes.body : Cd := (.seq (.rgn debuggerlaw35_TransportPushes.r0) (.seq (.seq (.rgn debuggerlaw35_TransportPushes.r1) (.cond (.tmp 18) (.seq (.rgn debuggerlaw35_TransportPushes.r2) .ret) .skip)) (.seq (.seq (.rgn debuggerlaw35_TransportPushes.r3) (.cond (.tmp 20) (.rgn debuggerlaw35_TransportPushes.r4) .skip)) (.seq (.rgn debuggerlaw35_TransportPushes.r5) (.seq (.rgn debuggerlaw35_TransportPushes.r6) (.seq (.rgn debuggerlaw35_TransportPushes.r7) .ret))))))
def debuggerlaw35_TransportPushes.af : AF := ⟨3, 50, [.tmp 6], debuggerlaw35_TransportPushes.body⟩
theorem debuggerlaw35_TransportPushes.ok : cFunc PP [] Try.f4 = some debuggerlaw35_TransportPushes.af := by kernel_rfl
theorem debuggerlaw35_TransportPushes.intro {args : List V} {H : Heap} {Q : V → Heap → Prop} (hlen : args.length ≤ 50) (h : wpC (SCall PP) H.length debuggerlaw35_TransportPushes.body (exitK H.length [.tmp 6] Q) ⟨initVs 0 args, H⟩) : SCall PP N.debuggerlaw35_TransportPushes args H Q :=
  SCall.intro Try.func4 (by kernel_rfl) debuggerlaw35_TransportPushes.ok hlen h
/-! ### debugger/debuggerlaw35.TransportDelivers -/
/-! ### debugger/debuggerlaw35.TransportRestarts -/
/-! ### debugger/debuggerlaw35.TransportSilent -/
/-! ### debugger/debuggerlaw35.TransportWindow -/
/-! ### debugger/debuggerlaw35.large -/
abbrev debuggerlaw35_large.r0 : List Ins := [⟨some 2, none, .op .id [.val (.t (.bool false))]⟩]
abbrev debuggerlaw35_large.r1 : List Ins := [⟨some 3, none, .op .id [.val (.t (.int .i64 0))]⟩]
abbrev debuggerlaw35_large.r2 : List Ins := [⟨some 4, none, .op .id [.tmp 3]⟩,
  ⟨some 5, none, .op .id [.tmp 0]⟩,
  ⟨some 6, none, .op .len [.tmp 5]⟩,
  ⟨some 7, none, .op (.bin .lss) [.tmp 4, .tmp 6]⟩,
  ⟨some 8, none, .op .id [.tmp 7]⟩,
  ⟨some 9, some (8, true), .op .id [.tmp 3]⟩,
  ⟨some 10, some (8, true), .op (.bin .lss) [.tmp 9, .val (.t (.int .i64 20))]⟩,
  ⟨some 11, none, .op .pick [.tmp 8, .tmp 10, .val (.t (.bool false))]⟩]
abbrev debuggerlaw35_large.r3 : List Ins := [⟨some 14, none, .op .id [.tmp 0]⟩,
  ⟨some 15, none, .op .id [.tmp 3]⟩,
  ⟨some 16, none, .op (.idxS 1) [.tmp 14, .tmp 15]⟩,
  ⟨some 17, none, .op .load1 [.tmp 16]⟩,
  ⟨some 18, none, .op .len [.tmp 17]⟩,
  ⟨some 19, none, .op (.bin .gtr) [.tmp 18, .val (.t (.int .i64 300))]⟩]
abbrev debuggerlaw35_large.r4 : List Ins := [⟨some 2, none, .op .id [.val (.t (.bool true))]⟩]
abbrev debuggerlaw35_large.r5 : List Ins := [⟨some 12, none, .op .id [.tmp 3]⟩,
  ⟨some 13, none, .op (.bin .add) [.tmp 12, .val (.t (.int .i64 1))]⟩,
  ⟨some 3, none, .op .id [.tmp 13]⟩]
abbrev debuggerlaw35_large.l0 : Cd := (.seq (.seq (.rgn debuggerlaw35_large.r2) (.cond (.tmp 11) .skip (.exit 0))) (.seq (.block 1 (.seq (.rgn debuggerlaw35_large.r3) (.cond (.tmp 19) (.seq (.rgn debuggerlaw35_large.r4) .ret) .skip))) (.rgn debuggerlaw35_large.r5)))
abbrev debuggerlaw35_large.r6 : List Ins := [⟨some 20, none, .op .id [.tmp 0]⟩,
  ⟨some 21, none, .op .len [.tmp 20]⟩,
  ⟨some 22, none, .op (.bin .gtr) [.tmp 21, .val (.t (.int .i64 20))]⟩,
  ⟨some 2, none, .op .id [.tmp 22]⟩]
abbrev debuggerlaw35_large.body : Cd := (.seq (.rgn debuggerlaw35_large.r0) (.seq (.seq (.rgn debuggerlaw35_large.r1) (.block 0 (.loop debuggerlaw35_large.l0))) (.seq (.rgn debuggerlaw35_large.r6) .ret)))
def debuggerlaw35_large.af : AF := ⟨1, 23, [.tmp 2], debuggerlaw35_large.body⟩
theorem debuggerlaw35_large.ok : cFunc PP [] Try.f9 = some debuggerlaw35_large.af := by kernel_rfl
theorem debuggerlaw35_large.intro {args : List V} {H : Heap} {Q : V → Heap → Prop} (hlen : args.length ≤ 23) (h : wpC (SCall PP) H.length debuggerlaw35_large.body (exitK H.length [.tmp 2] Q) ⟨initVs 0 args, H⟩) : SCall PP N.debuggerlaw35_large args H Q :=
  SCall.intro Try.func9 (by kernel_rfl) debuggerlaw35_large.ok hlen h
/-! ### debugger/debuggerlaw35.awake -/
abbrev debuggerlaw35_awake.r0 : List Ins := [⟨some 0, none, .op .id [.val (.t (.bool false))]⟩]
abbrev debuggerlaw35_awake.r1 : List Ins := [⟨some 11, none, .call N.transport_New [.val (.t (.int .i64 1))]⟩,
  ⟨some 12, none, .call N.transport_Poll [.tmp 11, .val (.t (.int .i64 0))]⟩,
  ⟨some 10, none, .op .id [.tmp 12]⟩,
  ⟨some 13, none, .op (.extract 0) [.tmp 10]⟩,
  ⟨some 14, none, .op (.extract 1) [.tmp 10]⟩,
  ⟨some 1, none, .op (.alloc [(.int .i64 0), (.int .i64 0), (.int .i64 0), (.int .i64 0), (.int .i64 0), (.int .i64 0), (.lst 0 true []), (.bool false)]) []⟩,
  ⟨none, none, .op (.store 8) [.tmp 1, .tmp 13]⟩,
  ⟨some 2, none, .op .id [.tmp 14]⟩]
abbrev debuggerlaw35_awake.r2 : List Ins := [⟨some 15, none, .op .id [.tmp 2]⟩,
  ⟨some 16, none, .op .len [.tmp 15]⟩,
  ⟨some 17, none, .op (.bin .neq) [.tmp 16, .val (.t (.int .i64 1))]⟩,
  ⟨some 18, none, .op .id [.tmp 17]⟩,
  ⟨some 19, some (18, false), .op (.fieldA 5) [.tmp 1]⟩,
  ⟨some 20, some (18, false), .op .load1 [.tmp 19]⟩,
  ⟨some 21, some (18, false), .op (.bin .neq) [.tmp 20, .val (.t (.int .i64 8))]⟩,
  ⟨some 22, none, .op .pick [.tmp 18, .val (.t (.bool true)), .tmp 21]⟩]
abbrev debuggerlaw35_awake.r3 : List Ins := [⟨some 0, none, .op .id [.val (.t (.bool false))]⟩]
abbrev debuggerlaw35_awake.d0 : Plan := (.val ⟨some 25, none, .op .id [.tmp 2]⟩
  (.val ⟨some 26, none, .op (.idxS 1) [.tmp 25, .val (.t (.int .i64 0))]⟩
  (.val ⟨some 27, none, .op .load1 [.tmp 26]⟩
  (.alt (.eff ⟨some 24, none, .call N.transport_New [.val (.t (.int .i64 2))]⟩ [⟨some 26, none, .op (.idxS 1) [.tmp 25, .val (.t (.int .i64 0))]⟩, ⟨some 27, none, .op .load1 [.tmp 26]⟩]
  (.alt (.eff ⟨some 28, none, .call N.transport_Receive [.tmp 24, .tmp 27]⟩ []
  (.val ⟨some 23, none, .op .id [.tmp 28]⟩
  (.val ⟨some 29, none, .op (.extract 0) [.tmp 23]⟩
  (.val ⟨some 30, none, .op (.extract 1) [.tmp 23]⟩
  (.val ⟨some 31, none, .op (.extract 2) [.tmp 23]⟩
  (.eff ⟨some 3, none, .op (.alloc [(.int .i64 0), (.int .i64 0), (.int .i64 0), (.int .i64 0), (.int .i64 0), (.int .i64 0), (.lst 0 true []), (.bool false)]) []⟩ [⟨some 26, none, .op (.idxS 1) [.tmp 25, .val (.t (.int .i64 0))]⟩, ⟨some 27, none, .op .load1 [.tmp 26]⟩]
  (.eff ⟨none, none, .op (.store 8) [.tmp 3, .tmp 29]⟩ []
  (.val ⟨some 4, none, .op .id [.tmp 30]⟩
  (.val ⟨some 5, none, .op .id [.tmp 31]⟩
  .fin)))))))))
  (.eff ⟨some 3, none, .op (.alloc [(.int .i64 0), (.int .i64 0), (.int .i64 0), (.int .i64 0), (.int .i64 0), (.int .i64 0), (.lst 0 true []), (.bool false)]) []⟩ [⟨some 26, none, .op (.idxS 1) [.tmp 25, .val (.t (.int .i64 0))]⟩, ⟨some 27, none, .op .load1 [.tmp 26]⟩]
  (.eff ⟨some 28, none, .call N.transport_Receive [.tmp 24, .tmp 27]⟩ []
  (.val ⟨some 23, none, .op .id [.tmp 28]⟩
  (.val ⟨some 29, none, .op (.extract 0) [.tmp 23]⟩
  (.val ⟨some 30, none, .op (.extract 1) [.tmp 23]⟩
  (.val ⟨some 31, none, .op (.extract 2) [.tmp 23]⟩
  (.eff ⟨none, none, .op (.store 8) [.tmp 3, .tmp 29]⟩ []
  (.val ⟨some 4, none, .op .id [.tmp 30]⟩
  (.val ⟨some 5, none, .op .id [.tmp 31]⟩
  .fin)))))))))))
  (.eff ⟨some 3, none, .op (.alloc [(.int .i64 0), (.int .i64 0), (.int .i64 0), (.int .i64 0), (.int .i64 0), (.int .i64 0), (.lst 0 true []), (.bool false)]) []⟩ [⟨some 26, none, .op (.idxS 1) [.tmp 25, .val (.t (.int .i64 0))]⟩, ⟨some 27, none, .op .load1 [.tmp 26]⟩]
  (.eff ⟨some 24, none, .call N.transport_New [.val (.t (.int .i64 2))]⟩ [⟨some 26, none, .op (.idxS 1) [.tmp 25, .val (.t (.int .i64 0))]⟩, ⟨some 27, none, .op .load1 [.tmp 26]⟩]
  (.eff ⟨some 28, none, .call N.transport_Receive [.tmp 24, .tmp 27]⟩ []
  (.val ⟨some 23, none, .op .id [.tmp 28]⟩
  (.val ⟨some 29, none, .op (.extract 0) [.tmp 23]⟩
  (.val ⟨some 30, none, .op (.extract 1) [.tmp 23]⟩
  (.val ⟨some 31, none, .op (.extract 2) [.tmp 23]⟩
  (.eff ⟨none, none, .op (.store 8) [.tmp 3, .tmp 29]⟩ []
  (.val ⟨some 4, none, .op .id [.tmp 30]⟩
  (.val ⟨some 5, none, .op .id [.tmp 31]⟩
  .fin))))))))))))))
abbrev debuggerlaw35_awake.r4 : List Ins := [⟨some 33, none, .op (.loadN 8) [.tmp 3]⟩,
  ⟨some 34, none, .op (.buildRow 1 (.int .u8 0) 1 [0]) [.val (.t (.int .u8 120))]⟩,
  ⟨some 35, none, .op .mark [.tmp 34]⟩,
  ⟨some 36, none, .call N.transport_Push [.tmp 33, .tmp 35]⟩,
  ⟨some 32, none, .op .id [.tmp 36]⟩,
  ⟨some 37, none, .op (.extract 0) [.tmp 32]⟩,
  ⟨some 38, none, .op (.extract 1) [.tmp 32]⟩,
  ⟨some 6, none, .op (.alloc [(.int .i64 0), (.int .i64 0), (.int .i64 0), (.int .i64 0), (.int .i64 0), (.int .i64 0), (.lst 0 true []), (.bool false)]) []⟩,
  ⟨none, none, .op (.store 8) [.tmp 6, .tmp 37]⟩,
  ⟨some 7, none, .op .id [.tmp 38]⟩]
abbrev debuggerlaw35_awake.r5 : List Ins := [⟨some 40, none, .op (.loadN 8) [.tmp 6]⟩,
  ⟨some 41, none, .call N.transport_Poll [.tmp 40, .val (.t (.int .i64 1))]⟩,
  ⟨some 39, none, .op .id [.tmp 41]⟩,
  ⟨some 42, none, .op (.extract 0) [.tmp 39]⟩,
  ⟨some 43, none, .op (.extract 1) [.tmp 39]⟩,
  ⟨some 8, none, .op (.alloc [(.int .i64 0), (.int .i64 0), (.int .i64 0), (.int .i64 0), (.int .i64 0), (.int .i64 0), (.lst 0 true []), (.bool false)]) []⟩,
  ⟨none, none, .op (.store 8) [.tmp 8, .tmp 42]⟩,
  ⟨some 9, none, .op .id [.tmp 43]⟩]
abbrev debuggerlaw35_awake.r6 : List Ins := [⟨some 44, none, .op (.fieldA 1) [.tmp 3]⟩,
  ⟨some 45, none, .op .load1 [.tmp 44]⟩,
  ⟨some 46, none, .op (.bin .eql) [.tmp 45, .val (.t (.int .i64 1))]⟩,
  ⟨some 47, none, .op .id [.tmp 46]⟩,
  ⟨some 48, some (47, true), .op (.fieldA 7) [.tmp 3]⟩,
  ⟨some 49, some (47, true), .op .load1 [.tmp 48]⟩,
  ⟨some 50, none, .op .pick [.tmp 47, .tmp 49, .val (.t (.bool false))]⟩,
  ⟨some 51, none, .op .id [.tmp 50]⟩,
  ⟨some 52, some (51, true), .op .id [.tmp 5]⟩,
  ⟨some 53, some (51, true), .op (.un .not) [.tmp 52]⟩,
  ⟨some 54, none, .op .pick [.tmp 51, .tmp 53, .val (.t (.bool false))]⟩,
  ⟨some 55, none, .op .id [.tmp 54]⟩,
  ⟨some 56, some (55, true), .op .id [.tmp 7]⟩,
  ⟨some 57, some (55, true), .op (.bin .eql) [.tmp 56, .val (.t (.int .i64 0))]⟩,
  ⟨some 58, none, .op .pick [.tmp 55, .tmp 57, .val (.t (.bool false))]⟩,
  ⟨some 59, none, .op .id [.tmp 58]⟩,
  ⟨some 60, some (59, true), .op .id [.tmp 9]⟩,
  ⟨some 61, some (59, true), .op .len [.tmp 60]⟩,
  ⟨some 62, some (59, true), .op (.bin .eql) [.tmp 61, .val (.t (.int .i64 1))]⟩,
  ⟨some 63, none, .op .pick [.tmp 59, .tmp 62, .val (.t (.bool false))]⟩,
  ⟨some 0, none, .op .id [.tmp 63]⟩]
abbrev debuggerlaw35_awake.body : Cd := (.seq (.rgn debuggerlaw35_awake.r0) (.seq (.rgn debuggerlaw35_awake.r1) (.seq (.seq (.rgn debuggerlaw35_awake.r2) (.cond (.tmp 22) (.seq (.rgn debuggerlaw35_awake.r3) .ret) .skip)) (.seq (.rgnD debuggerlaw35_awake.d0) (.seq (.rgn debuggerlaw35_awake.r4) (.seq (.rgn debuggerlaw35_awake.r5) (.seq (.rgn debuggerlaw35_awake.r6) .ret)))))))
def debuggerlaw35_awake.af : AF := ⟨0, 64, [.tmp 0], debuggerlaw35_awake.body⟩
theorem debuggerlaw35_awake.ok : cFunc PP [0, 1, 2, 3, 4, 5, 6, 7, 8, 9, 10, 11] Try.f10 = some debuggerlaw35_awake.af := by kernel_rfl
theorem debuggerlaw35_awake.intro {args : List V} {H : Heap} {Q : V → Heap → Prop} (hlen : args.length ≤ 64) (h : wpC (SCall PP) H.length debuggerlaw35_awake.body (exitK H.length [.tmp 0] Q) ⟨initVs 0 args, H⟩) : SCall PP N.debuggerlaw35_awake args H Q :=
  SCall.intro Try.func10 (by kernel_rfl) debuggerlaw35_awake.ok hlen h
/-! ### debugger/debuggerlaw35.right -/
/-! ### debugger/debuggerlaw35.same -/
abbrev debuggerlaw35_same.r0 : List Ins := [⟨some 2, none, .op .box [.tmp 0]⟩,
  ⟨some 3, none, .op .box [.tmp 1]⟩,
  ⟨some 4, none, .op .id [.val (.t (.bool false))]⟩]
abbrev debuggerlaw35_same.r1 : List Ins := [⟨some 5, none, .op (.loadN 8) [.tmp 2]⟩,
  ⟨some 6, none, .op (.loadN 8) [.tmp 3]⟩,
  ⟨some 7, none, .call N.debuggerref35_Same [.tmp 5, .tmp 6]⟩,
  ⟨some 4, none, .op .id [.tmp 7]⟩]
abbrev debuggerlaw35_same.body : Cd := (.seq (.rgn debuggerlaw35_same.r0) (.seq (.rgn debuggerlaw35_same.r1) .ret))
def debuggerlaw35_same.af : AF := ⟨2, 8, [.tmp 4], debuggerlaw35_same.body⟩
theorem debuggerlaw35_same.ok : cFunc PP [] Try.f15 = some debuggerlaw35_same.af := by kernel_rfl
theorem debuggerlaw35_same.intro {args : List V} {H : Heap} {Q : V → Heap → Prop} (hlen : args.length ≤ 8) (h : wpC (SCall PP) H.length debuggerlaw35_same.body (exitK H.length [.tmp 4] Q) ⟨initVs 0 args, H⟩) : SCall PP N.debuggerlaw35_same args H Q :=
  SCall.intro Try.func15 (by kernel_rfl) debuggerlaw35_same.ok hlen h
/-! ### debugger/debuggerlaw35.exchange -/
end Go.Proofs.Ytbpclinijbgchaa
