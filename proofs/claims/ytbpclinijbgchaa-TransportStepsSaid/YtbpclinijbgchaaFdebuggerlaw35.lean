/- The functions of package debuggerlaw35 as the code of the abstract machine. Written by a program of the session. -/
import Derived.Test.YtbpclinijbgchaaFn
namespace Go.Proofs.Ytbpclinijbgchaa
open Go Go.Abs
set_option maxRecDepth 100000
/-! ### debugger/debuggerlaw35.TransportSteps -/
abbrev debuggerlaw35_TransportSteps.r0 : List Ins := [⟨some 5, none, .op .box [.tmp 0]⟩,
  ⟨some 6, none, .op .box [.tmp 1]⟩,
  ⟨some 10, none, .op .id [.val (.t (.bool false))]⟩]
abbrev debuggerlaw35_TransportSteps.r1 : List Ins := [⟨some 26, none, .op (.fieldA 6) [.tmp 5]⟩,
  ⟨some 27, none, .op .load1 [.tmp 26]⟩,
  ⟨some 28, none, .call N.debuggerlaw35_large [.tmp 27]⟩,
  ⟨some 29, none, .op .id [.tmp 28]⟩,
  ⟨some 30, some (29, false), .op (.fieldA 5) [.tmp 6]⟩,
  ⟨some 31, some (29, false), .op .load1 [.tmp 30]⟩,
  ⟨some 32, some (29, false), .op .len [.tmp 31]⟩,
  ⟨some 33, some (29, false), .op (.bin .gtr) [.tmp 32, .val (.t (.int .i64 300))]⟩,
  ⟨some 34, none, .op .pick [.tmp 29, .val (.t (.bool true)), .tmp 33]⟩,
  ⟨some 35, none, .op .id [.tmp 34]⟩,
  ⟨some 36, some (35, false), .op .id [.tmp 2]⟩,
  ⟨some 37, some (35, false), .op .len [.tmp 36]⟩,
  ⟨some 38, some (35, false), .op (.bin .gtr) [.tmp 37, .val (.t (.int .i64 500))]⟩,
  ⟨some 39, none, .op .pick [.tmp 35, .val (.t (.bool true)), .tmp 38]⟩]
abbrev debuggerlaw35_TransportSteps.r2 : List Ins := [⟨some 40, none, .call N.debuggerlaw35_awake []⟩,
  ⟨some 10, none, .op .id [.tmp 40]⟩]
abbrev debuggerlaw35_TransportSteps.r3 : List Ins := [⟨some 41, none, .op (.loadN 8) [.tmp 5]⟩,
  ⟨some 42, none, .call N.debuggerlaw35_right [.tmp 41]⟩,
  ⟨none, none, .op (.store 8) [.tmp 5, .tmp 42]⟩]
abbrev debuggerlaw35_TransportSteps.r4 : List Ins := [⟨some 43, none, .op (.loadN 8) [.tmp 5]⟩,
  ⟨some 11, none, .op (.alloc [(.int .i64 0), (.int .i64 0), (.int .i64 0), (.int .i64 0), (.int .i64 0), (.int .i64 0), (.lst 0 true []), (.bool false)]) []⟩,
  ⟨none, none, .op (.store 8) [.tmp 11, .tmp 43]⟩]
abbrev debuggerlaw35_TransportSteps.r5 : List Ins := [⟨some 44, none, .op .id [.tmp 3]⟩,
  ⟨some 45, none, .call N.debuggerkit_Mod [.tmp 44, .val (.t (.int .i64 60))]⟩,
  ⟨some 3, none, .op .id [.tmp 45]⟩]
abbrev debuggerlaw35_TransportSteps.r6 : List Ins := [⟨some 47, none, .op (.loadN 8) [.tmp 5]⟩,
  ⟨some 48, none, .op .id [.tmp 3]⟩,
  ⟨some 49, none, .call N.transport_Poll [.tmp 47, .tmp 48]⟩,
  ⟨some 46, none, .op .id [.tmp 49]⟩,
  ⟨some 50, none, .op (.extract 0) [.tmp 46]⟩,
  ⟨some 51, none, .op (.extract 1) [.tmp 46]⟩,
  ⟨some 12, none, .op (.alloc [(.int .i64 0), (.int .i64 0), (.int .i64 0), (.int .i64 0), (.int .i64 0), (.int .i64 0), (.lst 0 true []), (.bool false)]) []⟩,
  ⟨none, none, .op (.store 8) [.tmp 12, .tmp 50]⟩,
  ⟨some 13, none, .op .id [.tmp 51]⟩]
abbrev debuggerlaw35_TransportSteps.r7 : List Ins := [⟨some 53, none, .op (.loadN 8) [.tmp 11]⟩,
  ⟨some 54, none, .op .id [.tmp 3]⟩,
  ⟨some 55, none, .call N.debuggerref35_Poll [.tmp 53, .tmp 54]⟩,
  ⟨some 52, none, .op .id [.tmp 55]⟩,
  ⟨some 56, none, .op (.extract 0) [.tmp 52]⟩,
  ⟨some 57, none, .op (.extract 1) [.tmp 52]⟩,
  ⟨some 14, none, .op (.alloc [(.int .i64 0), (.int .i64 0), (.int .i64 0), (.int .i64 0), (.int .i64 0), (.int .i64 0), (.lst 0 true []), (.bool false)]) []⟩,
  ⟨none, none, .op (.store 8) [.tmp 14, .tmp 56]⟩,
  ⟨some 15, none, .op .id [.tmp 57]⟩]
abbrev debuggerlaw35_TransportSteps.r8 : List Ins := [⟨some 58, none, .op (.loadN 8) [.tmp 12]⟩,
  ⟨some 59, none, .op (.loadN 8) [.tmp 14]⟩,
  ⟨some 60, none, .call N.debuggerlaw35_same [.tmp 58, .tmp 59]⟩,
  ⟨some 61, none, .op (.un .not) [.tmp 60]⟩,
  ⟨some 62, none, .op .id [.tmp 61]⟩,
  ⟨some 63, some (62, false), .op .id [.tmp 13]⟩,
  ⟨some 64, some (62, false), .op .id [.tmp 15]⟩,
  ⟨some 65, some (62, false), .call N.debuggerref34_Bodies [.tmp 63, .tmp 64]⟩,
  ⟨some 66, some (62, false), .op (.un .not) [.tmp 65]⟩,
  ⟨some 67, none, .op .pick [.tmp 62, .val (.t (.bool true)), .tmp 66]⟩]
abbrev debuggerlaw35_TransportSteps.r9 : List Ins := [⟨some 10, none, .op .id [.val (.t (.bool false))]⟩]
abbrev debuggerlaw35_TransportSteps.r10 : List Ins := [⟨some 68, none, .op (.fieldA 0) [.tmp 6]⟩,
  ⟨some 69, none, .op .load1 [.tmp 68]⟩,
  ⟨some 70, none, .call N.debuggerkit_Mod [.tmp 69, .val (.t (.int .i64 3))]⟩,
  ⟨some 71, none, .op (.bin .add) [.val (.t (.int .i64 1)), .tmp 70]⟩,
  ⟨some 72, none, .op (.fieldA 0) [.tmp 6]⟩,
  ⟨none, none, .op (.store 1) [.tmp 72, .tmp 71]⟩]
abbrev debuggerlaw35_TransportSteps.d0 : Plan := (.val ⟨some 73, none, .op (.fieldA 1) [.tmp 6]⟩
  (.val ⟨some 74, none, .op .load1 [.tmp 73]⟩
  (.val ⟨some 77, none, .op (.fieldA 2) [.tmp 6]⟩
  (.val ⟨some 78, none, .op .load1 [.tmp 77]⟩
  (.val ⟨some 80, none, .op (.fieldA 4) [.tmp 6]⟩
  (.val ⟨some 81, none, .op .load1 [.tmp 80]⟩
  (.eff ⟨some 75, none, .call N.debuggerkit_Mod [.tmp 74, .val (.t (.int .i64 7))]⟩ [⟨some 78, none, .op .load1 [.tmp 77]⟩, ⟨some 81, none, .op .load1 [.tmp 80]⟩]
  (.val ⟨some 76, none, .op (.bin .add) [.val (.t (.int .i64 1)), .tmp 75]⟩
  (.val ⟨some 83, none, .op (.fieldA 1) [.tmp 6]⟩
  (.eff ⟨some 79, none, .call N.debuggerkit_Mod [.tmp 78, .val (.t (.int .i64 8))]⟩ [⟨some 81, none, .op .load1 [.tmp 80]⟩]
  (.eff ⟨some 82, none, .call N.debuggerkit_Mod [.tmp 81, .val (.t (.int .i64 60))]⟩ []
  (.eff ⟨none, none, .op (.store 1) [.tmp 83, .tmp 76]⟩ []
  (.val ⟨some 84, none, .op (.fieldA 2) [.tmp 6]⟩
  (.eff ⟨none, none, .op (.store 1) [.tmp 84, .tmp 79]⟩ []
  (.val ⟨some 85, none, .op (.fieldA 4) [.tmp 6]⟩
  (.eff ⟨none, none, .op (.store 1) [.tmp 85, .tmp 82]⟩ []
  .fin))))))))))))))))
abbrev debuggerlaw35_TransportSteps.r11 : List Ins := [⟨some 86, none, .op (.fieldA 0) [.tmp 6]⟩,
  ⟨some 87, none, .op .load1 [.tmp 86]⟩,
  ⟨some 88, none, .op (.bin .eql) [.tmp 87, .val (.t (.int .i64 2))]⟩]
abbrev debuggerlaw35_TransportSteps.r12 : List Ins := [⟨some 89, none, .op (.fieldA 3) [.tmp 6]⟩,
  ⟨some 90, none, .op .load1 [.tmp 89]⟩,
  ⟨some 91, none, .call N.debuggerkit_Mod [.tmp 90, .val (.t (.int .i64 60))]⟩,
  ⟨some 92, none, .op (.bin .add) [.val (.t (.int .i64 1)), .tmp 91]⟩,
  ⟨some 93, none, .op (.fieldA 3) [.tmp 6]⟩,
  ⟨none, none, .op (.store 1) [.tmp 93, .tmp 92]⟩]
abbrev debuggerlaw35_TransportSteps.r13 : List Ins := [⟨some 94, none, .op (.fieldA 3) [.tmp 6]⟩,
  ⟨none, none, .op (.store 1) [.tmp 94, .val (.t (.int .i64 0))]⟩,
  ⟨some 95, none, .op (.fieldA 5) [.tmp 6]⟩,
  ⟨none, none, .op (.store 1) [.tmp 95, .val (.t (.lst 0 true []))]⟩]
abbrev debuggerlaw35_TransportSteps.r14 : List Ins := [⟨some 97, none, .op (.loadN 6) [.tmp 6]⟩,
  ⟨some 98, none, .call N.debuggerref33_Encode [.tmp 97]⟩,
  ⟨some 96, none, .op .id [.tmp 98]⟩,
  ⟨some 99, none, .op (.extract 0) [.tmp 96]⟩,
  ⟨some 100, none, .op (.extract 1) [.tmp 96]⟩,
  ⟨some 16, none, .op .id [.tmp 99]⟩,
  ⟨some 17, none, .op .id [.tmp 100]⟩]
abbrev debuggerlaw35_TransportSteps.r15 : List Ins := [⟨some 101, none, .op .id [.tmp 16]⟩,
  ⟨some 102, none, .op .id [.tmp 2]⟩,
  ⟨some 103, none, .op (.buildSlice 1 (.lst 0 true []) 2 [0, 1]) [.tmp 101, .tmp 102]⟩,
  ⟨some 104, none, .op .len [.tmp 103]⟩,
  ⟨some 105, none, .op .id [.val (.t (.int .i64 0))]⟩]
abbrev debuggerlaw35_TransportSteps.r16 : List Ins := [⟨some 106, none, .op (.bin .lss) [.tmp 105, .tmp 104]⟩]
abbrev debuggerlaw35_TransportSteps.r17 : List Ins := [⟨some 107, none, .op (.idxS 1) [.tmp 103, .tmp 105]⟩,
  ⟨some 108, none, .op .load1 [.tmp 107]⟩,
  ⟨some 19, none, .op .id [.tmp 108]⟩]
abbrev debuggerlaw35_TransportSteps.r18 : List Ins := [⟨some 110, none, .op (.loadN 8) [.tmp 5]⟩,
  ⟨some 111, none, .op .id [.tmp 19]⟩,
  ⟨some 112, none, .call N.transport_Receive [.tmp 110, .tmp 111]⟩,
  ⟨some 109, none, .op .id [.tmp 112]⟩,
  ⟨some 113, none, .op (.extract 0) [.tmp 109]⟩,
  ⟨some 114, none, .op (.extract 1) [.tmp 109]⟩,
  ⟨some 115, none, .op (.extract 2) [.tmp 109]⟩,
  ⟨some 20, none, .op (.alloc [(.int .i64 0), (.int .i64 0), (.int .i64 0), (.int .i64 0), (.int .i64 0), (.int .i64 0), (.lst 0 true []), (.bool false)]) []⟩,
  ⟨none, none, .op (.store 8) [.tmp 20, .tmp 113]⟩,
  ⟨some 21, none, .op .id [.tmp 114]⟩,
  ⟨some 22, none, .op .id [.tmp 115]⟩]
abbrev debuggerlaw35_TransportSteps.r19 : List Ins := [⟨some 117, none, .op (.loadN 8) [.tmp 11]⟩,
  ⟨some 118, none, .op .id [.tmp 19]⟩,
  ⟨some 119, none, .call N.debuggerref35_Receive [.tmp 117, .tmp 118]⟩,
  ⟨some 116, none, .op .id [.tmp 119]⟩,
  ⟨some 120, none, .op (.extract 0) [.tmp 116]⟩,
  ⟨some 121, none, .op (.extract 1) [.tmp 116]⟩,
  ⟨some 122, none, .op (.extract 2) [.tmp 116]⟩,
  ⟨some 23, none, .op (.alloc [(.int .i64 0), (.int .i64 0), (.int .i64 0), (.int .i64 0), (.int .i64 0), (.int .i64 0), (.lst 0 true []), (.bool false)]) []⟩,
  ⟨none, none, .op (.store 8) [.tmp 23, .tmp 120]⟩,
  ⟨some 24, none, .op .id [.tmp 121]⟩,
  ⟨some 25, none, .op .id [.tmp 122]⟩]
abbrev debuggerlaw35_TransportSteps.r20 : List Ins := [⟨some 123, none, .op (.loadN 8) [.tmp 20]⟩,
  ⟨some 124, none, .op (.loadN 8) [.tmp 23]⟩,
  ⟨some 125, none, .call N.debuggerlaw35_same [.tmp 123, .tmp 124]⟩,
  ⟨some 126, none, .op (.un .not) [.tmp 125]⟩,
  ⟨some 127, none, .op .id [.tmp 126]⟩,
  ⟨some 128, some (127, false), .op .id [.tmp 22]⟩,
  ⟨some 129, some (127, false), .op .id [.tmp 25]⟩,
  ⟨some 130, some (127, false), .op (.binB .neq) [.tmp 128, .tmp 129]⟩,
  ⟨some 131, none, .op .pick [.tmp 127, .val (.t (.bool true)), .tmp 130]⟩,
  ⟨some 132, none, .op .id [.tmp 131]⟩,
  ⟨some 133, some (132, false), .op .id [.tmp 21]⟩,
  ⟨some 134, some (132, false), .op .id [.tmp 24]⟩,
  ⟨some 135, some (132, false), .call N.debuggerref34_Bodies [.tmp 133, .tmp 134]⟩,
  ⟨some 136, some (132, false), .op (.un .not) [.tmp 135]⟩,
  ⟨some 137, none, .op .pick [.tmp 132, .val (.t (.bool true)), .tmp 136]⟩]
abbrev debuggerlaw35_TransportSteps.r21 : List Ins := [⟨some 10, none, .op .id [.val (.t (.bool false))]⟩]
abbrev debuggerlaw35_TransportSteps.r22 : List Ins := [⟨some 138, none, .op (.bin .add) [.tmp 105, .val (.t (.int .i64 1))]⟩,
  ⟨some 105, none, .op .id [.tmp 138]⟩]
abbrev debuggerlaw35_TransportSteps.l0 : Cd := (.seq (.rgn debuggerlaw35_TransportSteps.r16) (.seq (.cond (.tmp 106) .skip (.exit 0)) (.seq (.block 1 (.seq (.rgn debuggerlaw35_TransportSteps.r17) (.seq (.rgn debuggerlaw35_TransportSteps.r18) (.seq (.rgn debuggerlaw35_TransportSteps.r19) (.seq (.rgn debuggerlaw35_TransportSteps.r20) (.cond (.tmp 137) (.seq (.rgn debuggerlaw35_TransportSteps.r21) .ret) .skip)))))) (.rgn debuggerlaw35_TransportSteps.r22))))
abbrev debuggerlaw35_TransportSteps.r23 : List Ins := [⟨some 139, none, .op .id [.tmp 4]⟩,
  ⟨some 140, none, .call N.transport_New [.tmp 139]⟩,
  ⟨some 141, none, .op .id [.tmp 4]⟩,
  ⟨some 142, none, .call N.debuggerref35_New [.tmp 141]⟩,
  ⟨some 143, none, .call N.debuggerlaw35_same [.tmp 140, .tmp 142]⟩,
  ⟨some 144, none, .op .id [.tmp 143]⟩,
  ⟨some 145, some (144, true), .call N.debuggerlaw35_awake []⟩,
  ⟨some 146, none, .op .pick [.tmp 144, .tmp 145, .val (.t (.bool false))]⟩,
  ⟨some 10, none, .op .id [.tmp 146]⟩]
abbrev debuggerlaw35_TransportSteps.body : Cd := (.seq (.rgn debuggerlaw35_TransportSteps.r0) (.seq (.seq (.rgn debuggerlaw35_TransportSteps.r1) (.cond (.tmp 39) (.seq (.rgn debuggerlaw35_TransportSteps.r2) .ret) .skip)) (.seq (.rgn debuggerlaw35_TransportSteps.r3) (.seq (.rgn debuggerlaw35_TransportSteps.r4) (.seq (.rgn debuggerlaw35_TransportSteps.r5) (.seq (.rgn debuggerlaw35_TransportSteps.r6) (.seq (.rgn debuggerlaw35_TransportSteps.r7) (.seq (.seq (.rgn debuggerlaw35_TransportSteps.r8) (.cond (.tmp 67) (.seq (.rgn debuggerlaw35_TransportSteps.r9) .ret) .skip)) (.seq (.rgn debuggerlaw35_TransportSteps.r10) (.seq (.rgnD debuggerlaw35_TransportSteps.d0) (.seq (.seq (.rgn debuggerlaw35_TransportSteps.r11) (.cond (.tmp 88) (.rgn debuggerlaw35_TransportSteps.r12) (.rgn debuggerlaw35_TransportSteps.r13))) (.seq (.rgn debuggerlaw35_TransportSteps.r14) (.seq (.seq (.rgn debuggerlaw35_TransportSteps.r15) (.block 0 (.loop debuggerlaw35_TransportSteps.l0))) (.seq (.rgn debuggerlaw35_TransportSteps.r23) .ret))))))))))))))
def debuggerlaw35_TransportSteps.af : AF := ⟨5, 147, [.tmp 10], debuggerlaw35_TransportSteps.body⟩
theorem debuggerlaw35_TransportSteps.ok : cFunc PP [] Try.f3 = some debuggerlaw35_TransportSteps.af := by kernel_rfl
theorem debuggerlaw35_TransportSteps.intro {args : List V} {H : Heap} {Q : V → Heap → Prop} (hlen : args.length ≤ 147) (h : wpC (SCall PP) H.length debuggerlaw35_TransportSteps.body (exitK H.length [.tmp 10] Q) ⟨initVs 0 args, H⟩) : SCall PP N.debuggerlaw35_TransportSteps args H Q :=
  SCall.intro Try.func3 (by kernel_rfl) debuggerlaw35_TransportSteps.ok hlen h
/-! ### debugger/debuggerlaw35.TransportPushes -/
/-! ### debugger/debuggerlaw35.TransportDelivers -/
/-! ### debugger/debuggerlaw35.TransportRestarts -/
/-! ### debugger/debuggerlaw35.TransportSilent -/
/-! ### debugger/debuggerlaw35.TransportWindow -/
/-! ### debugger/debuggerlaw35.large -/
abbrev debuggerlaw35_large.r0 : List Ins := [⟨some 2, none, .op .id [.val (.t (.bool false))]⟩]
abbrev debuggerlaw35_large.r1 : List Ins := [⟨some 3, none, .op .id [.val (.t (.int .i64 0))]⟩]
abbrev debuggerlaw35_large.r2 : List Ins := [⟨some 4, none, .op .id [.tmp 3]⟩,
  ⟨some 5, none, .op .id [.tmp 0]⟩,
  ⟨some 6, none, .op .len [.tmp 5]⟩,
  ⟨some 7, none, .op (.bin .lss) [.tmp 4, .tmp 6]⟩,
  ⟨some 8, none, .op .id [.tmp 7]⟩,
  ⟨some 9, some (8, true), .op .id [.tmp 3]⟩,
  ⟨some 10, some (8, true), .op (.bin .lss) [.tmp 9, .val (.t (.int .i64 20))]⟩,
  ⟨some 11, none, .op .pick [.tmp 8, .tmp 10, .val (.t (.bool false))]⟩]
abbrev debuggerlaw35_large.r3 : List Ins := [⟨some 14, none, .op .id [.tmp 0]⟩,
  ⟨some 15, none, .op .id [.tmp 3]⟩,
  ⟨some 16, none, .op (.idxS 1) [.tmp 14, .tmp 15]⟩,
  ⟨some 17, none, .op .load1 [.tmp 16]⟩,
  ⟨some 18, none, .op .len [.tmp 17]⟩,
  ⟨some 19, none, .op (.bin .gtr) [.tmp 18, .val (.t (.int .i64 300))]⟩]
abbrev debuggerlaw35_large.r4 : List Ins := [⟨some 2, none, .op .id [.val (.t (.bool true))]⟩]
abbrev debuggerlaw35_large.r5 : List Ins := [⟨some 12, none, .op .id [.tmp 3]⟩,
  ⟨some 13, none, .op (.bin .add) [.tmp 12, .val (.t (.int .i64 1))]⟩,
  ⟨some 3, none, .op .id [.tmp 13]⟩]
abbrev debuggerlaw35_large.l0 : Cd := (.seq (.seq (.rgn debuggerlaw35_large.r2) (.cond (.tmp 11) .skip (.exit 0))) (.seq (.block 1 (.seq (.rgn debuggerlaw35_large.r3) (.cond (.tmp 19) (.seq (.rgn debuggerlaw35_large.r4) .ret) .skip))) (.rgn debuggerlaw35_large.r5)))
abbrev debuggerlaw35_large.r6 : List Ins := [⟨some 20, none, .op .id [.tmp 0]⟩,
  ⟨some 21, none, .op .len [.tmp 20]⟩,
  ⟨some 22, none, .op (.bin .gtr) [.tmp 21, .val (.t (.int .i64 20))]⟩,
  ⟨some 2, none, .op .id [.tmp 22]⟩]
abbrev debuggerlaw35_large.body : Cd := (.seq (.rgn debuggerlaw35_large.r0) (.seq (.seq (.rgn debuggerlaw35_large.r1) (.block 0 (.loop debuggerlaw35_large.l0))) (.seq (.rgn debuggerlaw35_large.r6) .ret)))
def debuggerlaw35_large.af : AF := ⟨1, 23, [.tmp 2], debuggerlaw35_large.body⟩
theorem debuggerlaw35_large.ok : cFunc PP [] Try.f9 = some debuggerlaw35_large.af := by kernel_rfl
theorem debuggerlaw35_large.intro {args : List V} {H : Heap} {Q : V → Heap → Prop} (hlen : args.length ≤ 23) (h : wpC (SCall PP) H.length debuggerlaw35_large.body (exitK H.length [.tmp 2] Q) ⟨initVs 0 args, H⟩) : SCall PP N.debuggerlaw35_large args H Q :=
  SCall.intro Try.func9 (by kernel_rfl) debuggerlaw35_large.ok hlen h
/-! ### debugger/debuggerlaw35.awake -/
abbrev debuggerlaw35_awake.r0 : List Ins := [⟨some 0, none, .op .id [.val (.t (.bool false))]⟩]
abbrev debuggerlaw35_awake.r1 : List Ins := [⟨some 11, none, .call N.transport_New [.val (.t (.int .i64 1))]⟩,
  ⟨some 12, none, .call N.transport_Poll [.tmp 11, .val (.t (.int .i64 0))]⟩,
  ⟨some 10, none, .op .id [.tmp 12]⟩,
  ⟨some 13, none, .op (.extract 0) [.tmp 10]⟩,
  ⟨some 14, none, .op (.extract 1) [.tmp 10]⟩,
  ⟨some 1, none, .op (.alloc [(.int .i64 0), (.int .i64 0), (.int .i64 0), (.int .i64 0), (.int .i64 0), (.int .i64 0), (.lst 0 true []), (.bool false)]) []⟩,
  ⟨none, none, .op (.store 8) [.tmp 1, .tmp 13]⟩,
  ⟨some 2, none, .op .id [.tmp 14]⟩]
abbrev debuggerlaw35_awake.r2 : List Ins := [⟨some 15, none, .op .id [.tmp 2]⟩,
  ⟨some 16, none, .op .len [.tmp 15]⟩,
  ⟨some 17, none, .op (.bin .neq) [.tmp 16, .val (.t (.int .i64 1))]⟩,
  ⟨some 18, none, .op .id [.tmp 17]⟩,
  ⟨some 19, some (18, false), .op (.fieldA 5) [.tmp 1]⟩,
  ⟨some 20, some (18, false), .op .load1 [.tmp 19]⟩,
  ⟨some 21, some (18, false), .op (.bin .neq) [.tmp 20, .val (.t (.int .i64 8))]⟩,
  ⟨some 22, none, .op .pick [.tmp 18, .val (.t (.bool true)), .tmp 21]⟩]
abbrev debuggerlaw35_awake.r3 : List Ins := [⟨some 0, none, .op .id [.val (.t (.bool false))]⟩]
abbrev debuggerlaw35_awake.d0 : Plan := (.val ⟨some 25, none, .op .id [.tmp 2]⟩
  (.val ⟨some 26, none, .op (.idxS 1) [.tmp 25, .val (.t (.int .i64 0))]⟩
  (.val ⟨some 27, none, .op .load1 [.tmp 26]⟩
  (.alt (.eff ⟨some 24, none, .call N.transport_New [.val (.t (.int .i64 2))]⟩ [⟨some 26, none, .op (.idxS 1) [.tmp 25, .val (.t (.int .i64 0))]⟩, ⟨some 27, none, .op .load1 [.tmp 26]⟩]
  (.alt (.eff ⟨some 28, none, .call N.transport_Receive [.tmp 24, .tmp 27]⟩ []
  (.val ⟨some 23, none, .op .id [.tmp 28]⟩
  (.val ⟨some 29, none, .op (.extract 0) [.tmp 23]⟩
  (.val ⟨some 30, none, .op (.extract 1) [.tmp 23]⟩
  (.val ⟨some 31, none, .op (.extract 2) [.tmp 23]⟩
  (.eff ⟨some 3, none, .op (.alloc [(.int .i64 0), (.int .i64 0), (.int .i64 0), (.int .i64 0), (.int .i64 0), (.int .i64 0), (.lst 0 true []), (.bool false)]) []⟩ [⟨some 26, none, .op (.idxS 1) [.tmp 25, .val (.t (.int .i64 0))]⟩, ⟨some 27, none, .op .load1 [.tmp 26]⟩]
  (.eff ⟨none, none, .op (.store 8) [.tmp 3, .tmp 29]⟩ []
  (.val ⟨some 4, none, .op .id [.tmp 30]⟩
  (.val ⟨some 5, none, .op .id [.tmp 31]⟩
  .fin)))))))))
  (.eff ⟨some 3, none, .op (.alloc [(.int .i64 0), (.int .i64 0), (.int .i64 0), (.int .i64 0), (.int .i64 0), (.int .i64 0), (.lst 0 true []), (.bool false)]) []⟩ [⟨some 26, none, .op (.idxS 1) [.tmp 25, .val (.t (.int .i64 0))]⟩, ⟨some 27, none, .op .load1 [.tmp 26]⟩]
  (.eff ⟨some 28, none, .call N.transport_Receive [.tmp 24, .tmp 27]⟩ []
  (.val ⟨some 23, none, .op .id [.tmp 28]⟩
  (.val ⟨some 29, none, .op (.extract 0) [.tmp 23]⟩
  (.val ⟨some 30, none, .op (.extract 1) [.tmp 23]⟩
  (.val ⟨some 31, none, .op (.extract 2) [.tmp 23]⟩
  (.eff ⟨none, none, .op (.store 8) [.tmp 3, .tmp 29]⟩ []
  (.val ⟨some 4, none, .op .id [.tmp 30]⟩
  (.val ⟨some 5, none, .op .id [.tmp 31]⟩
  .fin)))))))))))
  (.eff ⟨some 3, none, .op (.alloc [(.int .i64 0), (.int .i64 0), (.int .i64 0), (.int .i64 0), (.int .i64 0), (.int .i64 0), (.lst 0 true []), (.bool false)]) []⟩ [⟨some 26, none, .op (.idxS 1) [.tmp 25, .val (.t (.int .i64 0))]⟩, ⟨some 27, none, .op .load1 [.tmp 26]⟩]
  (.eff ⟨some 24, none, .call N.transport_New [.val (.t (.int .i64 2))]⟩ [⟨some 26, none, .op (.idxS 1) [.tmp 25, .val (.t (.int .i64 0))]⟩, ⟨some 27, none, .op .load1 [.tmp 26]⟩]
  (.eff ⟨some 28, none, .call N.transport_Receive [.tmp 24, .tmp 27]⟩ []
  (.val ⟨some 23, none, .op .id [.tmp 28]⟩
  (.val ⟨some 29, none, .op (.extract 0) [.tmp 23]⟩
  (.val ⟨some 30, none, .op (.extract 1) [.tmp 23]⟩
  (.val ⟨some 31, none, .op (.extract 2) [.tmp 23]⟩
  (.eff ⟨none, none, .op (.store 8) [.tmp 3, .tmp 29]⟩ []
  (.val ⟨some 4, none, .op .id [.tmp 30]⟩
  (.val ⟨some 5, none, .op .id [.tmp 31]⟩
  .fin))))))))))))))
abbrev debuggerlaw35_awake.r4 : List Ins := [⟨some 33, none, .op (.loadN 8) [.tmp 3]⟩,
  ⟨some 34, none, .op (.buildRow 1 (.int .u8 0) 1 [0]) [.val (.t (.int .u8 120))]⟩,
  ⟨some 35, none, .op .mark [.tmp 34]⟩,
  ⟨some 36, none, .call N.transport_Push [.tmp 33, .tmp 35]⟩,
  ⟨some 32, none, .op .id [.tmp 36]⟩,
  ⟨some 37, none, .op (.extract 0) [.tmp 32]⟩,
  ⟨some 38, none, .op (.extract 1) [.tmp 32]⟩,
  ⟨some 6, none, .op (.alloc [(.int .i64 0), (.int .i64 0), (.int .i64 0), (.int .i64 0), (.int .i64 0), (.int .i64 0), (.lst 0 true []), (.bool false)]) []⟩,
  ⟨none, none, .op (.store 8) [.tmp 6, .tmp 37]⟩,
  ⟨some 7, none, .op .id [.tmp 38]⟩]
abbrev debuggerlaw35_awake.r5 : List Ins := [⟨some 40, none, .op (.loadN 8) [.tmp 6]⟩,
  ⟨some 41, none, .call N.transport_Poll [.tmp 40, .val (.t (.int .i64 1))]⟩,
  ⟨some 39, none, .op .id [.tmp 41]⟩,
  ⟨some 42, none, .op (.extract 0) [.tmp 39]⟩,
  ⟨some 43, none, .op (.extract 1) [.tmp 39]⟩,
  ⟨some 8, none, .op (.alloc [(.int .i64 0), (.int .i64 0), (.int .i64 0), (.int .i64 0), (.int .i64 0), (.int .i64 0), (.lst 0 true []), (.bool false)]) []⟩,
  ⟨none, none, .op (.store 8) [.tmp 8, .tmp 42]⟩,
  ⟨some 9, none, .op .id [.tmp 43]⟩]
abbrev debuggerlaw35_awake.r6 : List Ins := [⟨some 44, none, .op (.fieldA 1) [.tmp 3]⟩,
  ⟨some 45, none, .op .load1 [.tmp 44]⟩,
  ⟨some 46, none, .op (.bin .eql) [.tmp 45, .val (.t (.int .i64 1))]⟩,
  ⟨some 47, none, .op .id [.tmp 46]⟩,
  ⟨some 48, some (47, true), .op (.fieldA 7) [.tmp 3]⟩,
  ⟨some 49, some (47, true), .op .load1 [.tmp 48]⟩,
  ⟨some 50, none, .op .pick [.tmp 47, .tmp 49, .val (.t (.bool false))]⟩,
  ⟨some 51, none, .op .id [.tmp 50]⟩,
  ⟨some 52, some (51, true), .op .id [.tmp 5]⟩,
  ⟨some 53, some (51, true), .op (.un .not) [.tmp 52]⟩,
  ⟨some 54, none, .op .pick [.tmp 51, .tmp 53, .val (.t (.bool false))]⟩,
  ⟨some 55, none, .op .id [.tmp 54]⟩,
  ⟨some 56, some (55, true), .op .id [.tmp 7]⟩,
  ⟨some 57, some (55, true), .op (.bin .eql) [.tmp 56, .val (.t (.int .i64 0))]⟩,
  ⟨some 58, none, .op .pick [.tmp 55, .tmp 57, .val (.t (.bool false))]⟩,
  ⟨some 59, none, .op .id [.tmp 58]⟩,
  ⟨some 60, some (59, true), .op .id [.tmp 9]⟩,
  ⟨some 61, some (59, true), .op .len [.tmp 60]⟩,
  ⟨some 62, some (59, true), .op (.bin .eql) [.tmp 61, .val (.t (.int .i64 1))]⟩,
  ⟨some 63, none, .op .pick [.tmp 59, .tmp 62, .val (.t (.bool false))]⟩,
  ⟨some 0, none, .op .id [.tmp 63]⟩]
abbrev debuggerlaw35_awake.body : Cd := (.seq (.rgn debuggerlaw35_awake.r0) (.seq (.rgn debuggerlaw35_awake.r1) (.seq (.seq (.rgn debuggerlaw35_awake.r2) (.cond (.tmp 22) (.seq (.rgn debuggerlaw35_awake.r3) .ret) .skip)) (.seq (.rgnD debuggerlaw35_awake.d0) (.seq (.rgn debuggerlaw35_awake.r4) (.seq (.rgn debuggerlaw35_awake.r5) (.seq (.rgn debuggerlaw35_awake.r6) .ret)))))))
def debuggerlaw35_awake.af : AF := ⟨0, 64, [.tmp 0], debuggerlaw35_awake.body⟩
theorem debuggerlaw35_awake.ok : cFunc PP [0, 1, 2, 3, 4, 5, 6, 7, 8, 9, 10, 11] Try.f10 = some debuggerlaw35_awake.af := by kernel_rfl
theorem debuggerlaw35_awake.intro {args : List V} {H : Heap} {Q : V → Heap → Prop} (hlen : args.length ≤ 64) (h : wpC (SCall PP) H.length debuggerlaw35_awake.body (exitK H.length [.tmp 0] Q) ⟨initVs 0 args, H⟩) : SCall PP N.debuggerlaw35_awake args H Q :=
  SCall.intro Try.func10 (by kernel_rfl) debuggerlaw35_awake.ok hlen h
/-! ### debugger/debuggerlaw35.right -/
abbrev debuggerlaw35_right.r0 : List Ins := [⟨some 1, none, .op .box [.tmp 0]⟩,
  ⟨some 2, none, .op (.alloc [(.int .i64 0), (.int .i64 0), (.int .i64 0), (.int .i64 0), (.int .i64 0), (.int .i64 0), (.lst 0 true []), (.bool false)]) []⟩]
abbrev debuggerlaw35_right.d0 : Plan := (.val ⟨some 3, none, .op (.fieldA 0) [.tmp 1]⟩
  (.val ⟨some 4, none, .op .load1 [.tmp 3]⟩
  (.val ⟨some 7, none, .op (.fieldA 1) [.tmp 1]⟩
  (.val ⟨some 8, none, .op .load1 [.tmp 7]⟩
  (.eff ⟨some 5, none, .call N.debuggerkit_Mod [.tmp 4, .val (.t (.int .i64 6))]⟩ [⟨some 8, none, .op .load1 [.tmp 7]⟩]
  (.val ⟨some 6, none, .op (.bin .add) [.val (.t (.int .i64 1)), .tmp 5]⟩
  (.val ⟨some 10, none, .op (.fieldA 0) [.tmp 1]⟩
  (.eff ⟨some 9, none, .call N.debuggerkit_Mod [.tmp 8, .val (.t (.int .i64 6))]⟩ []
  (.eff ⟨none, none, .op (.store 1) [.tmp 10, .tmp 6]⟩ []
  (.val ⟨some 11, none, .op (.fieldA 1) [.tmp 1]⟩
  (.eff ⟨none, none, .op (.store 1) [.tmp 11, .tmp 9]⟩ []
  .fin)))))))))))
abbrev debuggerlaw35_right.r1 : List Ins := [⟨some 12, none, .op (.fieldA 2) [.tmp 1]⟩,
  ⟨some 13, none, .op .load1 [.tmp 12]⟩,
  ⟨some 14, none, .call N.debuggerkit_Mod [.tmp 13, .val (.t (.int .i64 50))]⟩,
  ⟨some 15, none, .op (.fieldA 2) [.tmp 1]⟩,
  ⟨none, none, .op (.store 1) [.tmp 15, .tmp 14]⟩]
abbrev debuggerlaw35_right.d1 : Plan := (.val ⟨some 16, none, .op (.fieldA 2) [.tmp 1]⟩
  (.val ⟨some 17, none, .op .load1 [.tmp 16]⟩
  (.val ⟨some 18, none, .op (.fieldA 3) [.tmp 1]⟩
  (.val ⟨some 19, none, .op .load1 [.tmp 18]⟩
  (.val ⟨some 20, none, .op (.fieldA 6) [.tmp 1]⟩
  (.val ⟨some 21, none, .op .load1 [.tmp 20]⟩
  (.val ⟨some 22, none, .op .len [.tmp 21]⟩
  (.val ⟨some 23, none, .op .min2 [.tmp 22, .val (.t (.int .i64 4))]⟩
  (.val ⟨some 24, none, .op (.bin .add) [.tmp 23, .val (.t (.int .i64 1))]⟩
  (.eff ⟨some 25, none, .call N.debuggerkit_Mod [.tmp 19, .tmp 24]⟩ [⟨some 17, none, .op .load1 [.tmp 16]⟩]
  (.val ⟨some 26, none, .op (.bin .add) [.tmp 17, .tmp 25]⟩
  (.val ⟨some 27, none, .op (.fieldA 3) [.tmp 1]⟩
  (.eff ⟨none, none, .op (.store 1) [.tmp 27, .tmp 26]⟩ []
  .fin)))))))))))))
abbrev debuggerlaw35_right.d2 : Plan := (.val ⟨some 28, none, .op (.fieldA 4) [.tmp 1]⟩
  (.val ⟨some 29, none, .op .load1 [.tmp 28]⟩
  (.val ⟨some 31, none, .op (.fieldA 5) [.tmp 1]⟩
  (.val ⟨some 32, none, .op .load1 [.tmp 31]⟩
  (.eff ⟨some 30, none, .call N.debuggerkit_Mod [.tmp 29, .val (.t (.int .i64 50))]⟩ [⟨some 32, none, .op .load1 [.tmp 31]⟩]
  (.val ⟨some 34, none, .op (.fieldA 4) [.tmp 1]⟩
  (.eff ⟨some 33, none, .call N.debuggerkit_Mod [.tmp 32, .val (.t (.int .i64 40))]⟩ []
  (.eff ⟨none, none, .op (.store 1) [.tmp 34, .tmp 30]⟩ []
  (.val ⟨some 35, none, .op (.fieldA 5) [.tmp 1]⟩
  (.eff ⟨none, none, .op (.store 1) [.tmp 35, .tmp 33]⟩ []
  .fin))))))))))
abbrev debuggerlaw35_right.r2 : List Ins := [⟨some 36, none, .op (.loadN 8) [.tmp 1]⟩,
  ⟨none, none, .op (.store 8) [.tmp 2, .tmp 36]⟩]
abbrev debuggerlaw35_right.body : Cd := (.seq (.rgn debuggerlaw35_right.r0) (.seq (.rgnD debuggerlaw35_right.d0) (.seq (.rgn debuggerlaw35_right.r1) (.seq (.rgnD debuggerlaw35_right.d1) (.seq (.rgnD debuggerlaw35_right.d2) (.seq (.rgn debuggerlaw35_right.r2) .ret))))))
def debuggerlaw35_right.af : AF := ⟨1, 37, [.cell 2 8 false], debuggerlaw35_right.body⟩
theorem debuggerlaw35_right.ok : cFunc PP [] Try.f11 = some debuggerlaw35_right.af := by kernel_rfl
theorem debuggerlaw35_right.intro {args : List V} {H : Heap} {Q : V → Heap → Prop} (hlen : args.length ≤ 37) (h : wpC (SCall PP) H.length debuggerlaw35_right.body (exitK H.length [.cell 2 8 false] Q) ⟨initVs 0 args, H⟩) : SCall PP N.debuggerlaw35_right args H Q :=
  SCall.intro Try.func11 (by kernel_rfl) debuggerlaw35_right.ok hlen h
/-! ### debugger/debuggerlaw35.same -/
abbrev debuggerlaw35_same.r0 : List Ins := [⟨some 2, none, .op .box [.tmp 0]⟩,
  ⟨some 3, none, .op .box [.tmp 1]⟩,
  ⟨some 4, none, .op .id [.val (.t (.bool false))]⟩]
abbrev debuggerlaw35_same.r1 : List Ins := [⟨some 5, none, .op (.loadN 8) [.tmp 2]⟩,
  ⟨some 6, none, .op (.loadN 8) [.tmp 3]⟩,
  ⟨some 7, none, .call N.debuggerref35_Same [.tmp 5, .tmp 6]⟩,
  ⟨some 4, none, .op .id [.tmp 7]⟩]
abbrev debuggerlaw35_same.body : Cd := (.seq (.rgn debuggerlaw35_same.r0) (.seq (.rgn debuggerlaw35_same.r1) .ret))
def debuggerlaw35_same.af : AF := ⟨2, 8, [.tmp 4], debuggerlaw35_same.body⟩
theorem debuggerlaw35_same.ok : cFunc PP [] Try.f15 = some debuggerlaw35_same.af := by kernel_rfl
theorem debuggerlaw35_same.intro {args : List V} {H : Heap} {Q : V → Heap → Prop} (hlen : args.length ≤ 8) (h : wpC (SCall PP) H.length debuggerlaw35_same.body (exitK H.length [.tmp 4] Q) ⟨initVs 0 args, H⟩) : SCall PP N.debuggerlaw35_same args H Q :=
  SCall.intro Try.func15 (by kernel_rfl) debuggerlaw35_same.ok hlen h
/-! ### debugger/debuggerlaw35.exchange -/
end Go.Proofs.Ytbpclinijbgchaa
