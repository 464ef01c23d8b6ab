/- The functions of package debuggerlaw33 as the code of the abstract machine. Written by a program of the session. -/
import Derived.Test.YtljjabccgbakgaaFn
namespace Go.Proofs.Ytljjabccgbakgaa
open Go Go.Abs
set_option maxRecDepth 100000
/-! ### debugger/debuggerlaw33.PacketSums -/
abbrev debuggerlaw33_PacketSums.r0 : List Ins := [⟨some 2, none, .op .id [.val (.t (.bool false))]⟩]
abbrev debuggerlaw33_PacketSums.r1 : List Ins := [⟨some 3, none, .op .id [.tmp 0]⟩,
  ⟨some 4, none, .op .len [.tmp 3]⟩,
  ⟨some 5, none, .op (.bin .gtr) [.tmp 4, .val (.t (.int .i64 3000))]⟩]
abbrev debuggerlaw33_PacketSums.r2 : List Ins := [⟨some 6, none, .call N.debuggerlaw33_awake []⟩,
  ⟨some 2, none, .op .id [.tmp 6]⟩]
abbrev debuggerlaw33_PacketSums.r3 : List Ins := [⟨some 7, none, .op .id [.tmp 0]⟩,
  ⟨some 8, none, .call N.packet_Sum [.tmp 7]⟩,
  ⟨some 9, none, .op .id [.tmp 0]⟩,
  ⟨some 10, none, .call N.debuggerref33_Sum [.tmp 9]⟩,
  ⟨some 11, none, .op (.bin .eql) [.tmp 8, .tmp 10]⟩,
  ⟨some 12, none, .op .id [.tmp 11]⟩,
  ⟨some 13, some (12, true), .call N.debuggerlaw33_awake []⟩,
  ⟨some 14, none, .op .pick [.tmp 12, .tmp 13, .val (.t (.bool false))]⟩,
  ⟨some 2, none, .op .id [.tmp 14]⟩]
abbrev debuggerlaw33_PacketSums.body : Cd := (.seq (.rgn debuggerlaw33_PacketSums.r0) (.seq (.seq (.rgn debuggerlaw33_PacketSums.r1) (.cond (.tmp 5) (.seq (.rgn debuggerlaw33_PacketSums.r2) .ret) .skip)) (.seq (.rgn debuggerlaw33_PacketSums.r3) .ret)))
def debuggerlaw33_PacketSums.af : AF := ⟨1, 15, [.tmp 2], debuggerlaw33_PacketSums.body⟩
theorem debuggerlaw33_PacketSums.ok : cFunc PP [] Try.f5 = some debuggerlaw33_PacketSums.af := by kernel_rfl
theorem debuggerlaw33_PacketSums.intro {args : List V} {H : Heap} {Q : V → Heap → Prop} (hlen : args.length ≤ 15) (h : wpC (SCall PP) H.length debuggerlaw33_PacketSums.body (exitK H.length [.tmp 2] Q) ⟨initVs 0 args, H⟩) : SCall PP N.debuggerlaw33_PacketSums args H Q :=
  SCall.intro Try.func5 (by kernel_rfl) debuggerlaw33_PacketSums.ok hlen h
/-! ### debugger/debuggerlaw33.PacketCodes -/
abbrev debuggerlaw33_PacketCodes.r0 : List Ins := [⟨some 2, none, .op .box [.tmp 0]⟩,
  ⟨some 4, none, .op .id [.val (.t (.bool false))]⟩]
abbrev debuggerlaw33_PacketCodes.r1 : List Ins := [⟨some 13, none, .op (.fieldA 5) [.tmp 2]⟩,
  ⟨some 14, none, .op .load1 [.tmp 13]⟩,
  ⟨some 15, none, .op .len [.tmp 14]⟩,
  ⟨some 16, none, .op (.bin .gtr) [.tmp 15, .val (.t (.int .i64 7000))]⟩]
abbrev debuggerlaw33_PacketCodes.r2 : List Ins := [⟨some 17, none, .call N.debuggerlaw33_awake []⟩,
  ⟨some 4, none, .op .id [.tmp 17]⟩]
abbrev debuggerlaw33_PacketCodes.d0 : Plan := (.val ⟨some 18, none, .op (.loadN 6) [.tmp 2]⟩
  (.val ⟨some 19, none, .op (.loadN 6) [.tmp 2]⟩
  (.val ⟨some 20, none, .op .id [.tmp 1]⟩
  (.val ⟨some 22, none, .op (.loadN 6) [.tmp 2]⟩
  (.val ⟨some 26, none, .op .id [.val (.t (.int .i64 0))]⟩
  (.eff ⟨some 21, none, .call N.debuggerlaw33_near [.tmp 19, .tmp 20]⟩ [⟨some 18, none, .op (.loadN 6) [.tmp 2]⟩, ⟨some 22, none, .op (.loadN 6) [.tmp 2]⟩]
  (.eff ⟨some 23, none, .call N.debuggerlaw33_near [.tmp 22, .val (.t (.int .i64 11))]⟩ [⟨some 18, none, .op (.loadN 6) [.tmp 2]⟩]
  (.eff ⟨some 24, none, .op (.buildSlice 6 (.agg [(.int .i64 0), (.int .i64 0), (.int .i64 0), (.int .i64 0), (.int .i64 0), (.lst 0 true [])]) 3 [0, 1, 2]) [.tmp 18, .tmp 21, .tmp 23]⟩ []
  (.val ⟨some 25, none, .op .len [.tmp 24]⟩
  .fin)))))))))
abbrev debuggerlaw33_PacketCodes.r3 : List Ins := [⟨some 27, none, .op (.bin .lss) [.tmp 26, .tmp 25]⟩]
abbrev debuggerlaw33_PacketCodes.r4 : List Ins := [⟨some 28, none, .op (.idxS 6) [.tmp 24, .tmp 26]⟩,
  ⟨some 29, none, .op (.loadN 6) [.tmp 28]⟩,
  ⟨some 6, none, .op (.alloc [(.int .i64 0), (.int .i64 0), (.int .i64 0), (.int .i64 0), (.int .i64 0), (.lst 0 true [])]) []⟩,
  ⟨none, none, .op (.store 6) [.tmp 6, .tmp 29]⟩]
abbrev debuggerlaw33_PacketCodes.r5 : List Ins := [⟨some 31, none, .op (.loadN 6) [.tmp 6]⟩,
  ⟨some 32, none, .call N.packet_Encode [.tmp 31]⟩,
  ⟨some 30, none, .op .id [.tmp 32]⟩,
  ⟨some 33, none, .op (.extract 0) [.tmp 30]⟩,
  ⟨some 34, none, .op (.extract 1) [.tmp 30]⟩,
  ⟨some 7, none, .op .id [.tmp 33]⟩,
  ⟨some 8, none, .op .id [.tmp 34]⟩]
abbrev debuggerlaw33_PacketCodes.r6 : List Ins := [⟨some 36, none, .op (.loadN 6) [.tmp 6]⟩,
  ⟨some 37, none, .call N.debuggerref33_Encode [.tmp 36]⟩,
  ⟨some 35, none, .op .id [.tmp 37]⟩,
  ⟨some 38, none, .op (.extract 0) [.tmp 35]⟩,
  ⟨some 39, none, .op (.extract 1) [.tmp 35]⟩,
  ⟨some 9, none, .op .id [.tmp 38]⟩,
  ⟨some 10, none, .op .id [.tmp 39]⟩]
abbrev debuggerlaw33_PacketCodes.d1 : Plan := (.val ⟨some 40, none, .op .id [.tmp 8]⟩
  (.val ⟨some 41, none, .op .id [.tmp 10]⟩
  (.val ⟨some 42, none, .op (.bin .neq) [.tmp 40, .tmp 41]⟩
  (.val ⟨some 43, none, .op .id [.tmp 42]⟩
  (.val ⟨some 44, some (43, false), .op .id [.tmp 7]⟩
  (.val ⟨some 45, some (43, false), .op .toStr [.tmp 44]⟩
  (.val ⟨some 46, some (43, false), .op .id [.tmp 9]⟩
  (.val ⟨some 47, some (43, false), .op .toStr [.tmp 46]⟩
  (.val ⟨some 48, some (43, false), .op (.bin .neq) [.tmp 45, .tmp 47]⟩
  (.val ⟨some 49, none, .op .pick [.tmp 43, .val (.t (.bool true)), .tmp 48]⟩
  (.val ⟨some 50, none, .op .id [.tmp 49]⟩
  (.val ⟨some 51, some (50, false), .op (.loadN 6) [.tmp 6]⟩
  (.val ⟨some 53, some (50, false), .op (.loadN 6) [.tmp 6]⟩
  (.eff ⟨some 52, some (50, false), .call N.packet_Right [.tmp 51]⟩ [⟨some 53, some (50, false), .op (.loadN 6) [.tmp 6]⟩]
  (.eff ⟨some 54, some (50, false), .call N.debuggerref33_Right [.tmp 53]⟩ []
  (.val ⟨some 55, some (50, false), .op (.binB .neq) [.tmp 52, .tmp 54]⟩
  (.val ⟨some 56, none, .op .pick [.tmp 50, .val (.t (.bool true)), .tmp 55]⟩
  .fin)))))))))))))))))
abbrev debuggerlaw33_PacketCodes.r7 : List Ins := [⟨some 4, none, .op .id [.val (.t (.bool false))]⟩]
abbrev debuggerlaw33_PacketCodes.r8 : List Ins := [⟨some 57, none, .op .id [.tmp 10]⟩,
  ⟨some 58, none, .op (.bin .neq) [.tmp 57, .val (.t (.int .i64 0))]⟩]
abbrev debuggerlaw33_PacketCodes.r9 : List Ins := [⟨some 60, none, .op .id [.tmp 9]⟩,
  ⟨some 61, none, .call N.packet_Decode [.tmp 60]⟩,
  ⟨some 59, none, .op .id [.tmp 61]⟩,
  ⟨some 62, none, .op (.extract 0) [.tmp 59]⟩,
  ⟨some 63, none, .op (.extract 1) [.tmp 59]⟩,
  ⟨some 11, none, .op (.alloc [(.int .i64 0), (.int .i64 0), (.int .i64 0), (.int .i64 0), (.int .i64 0), (.lst 0 true [])]) []⟩,
  ⟨none, none, .op (.store 6) [.tmp 11, .tmp 62]⟩,
  ⟨some 12, none, .op .id [.tmp 63]⟩]
abbrev debuggerlaw33_PacketCodes.r10 : List Ins := [⟨some 64, none, .op .id [.tmp 12]⟩,
  ⟨some 65, none, .op (.bin .neq) [.tmp 64, .val (.t (.int .i64 0))]⟩,
  ⟨some 66, none, .op .id [.tmp 65]⟩,
  ⟨some 67, some (66, false), .op (.loadN 6) [.tmp 6]⟩,
  ⟨some 68, some (66, false), .op (.loadN 6) [.tmp 11]⟩,
  ⟨some 69, some (66, false), .call N.debuggerref33_Same [.tmp 67, .tmp 68]⟩,
  ⟨some 70, some (66, false), .op (.un .not) [.tmp 69]⟩,
  ⟨some 71, none, .op .pick [.tmp 66, .val (.t (.bool true)), .tmp 70]⟩]
abbrev debuggerlaw33_PacketCodes.r11 : List Ins := [⟨some 4, none, .op .id [.val (.t (.bool false))]⟩]
abbrev debuggerlaw33_PacketCodes.r12 : List Ins := [⟨some 72, none, .op (.bin .add) [.tmp 26, .val (.t (.int .i64 1))]⟩,
  ⟨some 26, none, .op .id [.tmp 72]⟩]
abbrev debuggerlaw33_PacketCodes.l0 : Cd := (.seq (.rgn debuggerlaw33_PacketCodes.r3) (.seq (.cond (.tmp 27) .skip (.exit 0)) (.seq (.block 1 (.seq (.rgn debuggerlaw33_PacketCodes.r4) (.seq (.rgn debuggerlaw33_PacketCodes.r5) (.seq (.rgn debuggerlaw33_PacketCodes.r6) (.seq (.seq (.rgnD debuggerlaw33_PacketCodes.d1) (.cond (.tmp 56) (.seq (.rgn debuggerlaw33_PacketCodes.r7) .ret) .skip)) (.seq (.seq (.rgn debuggerlaw33_PacketCodes.r8) (.cond (.tmp 58) (.exit 1) .skip)) (.seq (.rgn debuggerlaw33_PacketCodes.r9) (.seq (.rgn debuggerlaw33_PacketCodes.r10) (.cond (.tmp 71) (.seq (.rgn debuggerlaw33_PacketCodes.r11) .ret) .skip))))))))) (.rgn debuggerlaw33_PacketCodes.r12))))
abbrev debuggerlaw33_PacketCodes.r13 : List Ins := [⟨some 73, none, .call N.debuggerlaw33_awake []⟩,
  ⟨some 4, none, .op .id [.tmp 73]⟩]
abbrev debuggerlaw33_PacketCodes.body : Cd := (.seq (.rgn debuggerlaw33_PacketCodes.r0) (.seq (.seq (.rgn debuggerlaw33_PacketCodes.r1) (.cond (.tmp 16) (.seq (.rgn debuggerlaw33_PacketCodes.r2) .ret) .skip)) (.seq (.seq (.rgnD debuggerlaw33_PacketCodes.d0) (.block 0 (.loop debuggerlaw33_PacketCodes.l0))) (.seq (.rgn debuggerlaw33_PacketCodes.r13) .ret))))
def debuggerlaw33_PacketCodes.af : AF := ⟨2, 74, [.tmp 4], debuggerlaw33_PacketCodes.body⟩
theorem debuggerlaw33_PacketCodes.ok : cFunc PP [] Try.f9 = some debuggerlaw33_PacketCodes.af := by kernel_rfl
theorem debuggerlaw33_PacketCodes.intro {args : List V} {H : Heap} {Q : V → Heap → Prop} (hlen : args.length ≤ 74) (h : wpC (SCall PP) H.length debuggerlaw33_PacketCodes.body (exitK H.length [.tmp 4] Q) ⟨initVs 0 args, H⟩) : SCall PP N.debuggerlaw33_PacketCodes args H Q :=
  SCall.intro Try.func9 (by kernel_rfl) debuggerlaw33_PacketCodes.ok hlen h
/-! ### debugger/debuggerlaw33.PacketDecodes -/
abbrev debuggerlaw33_PacketDecodes.r0 : List Ins := [⟨some 6, none, .op .box [.tmp 1]⟩,
  ⟨some 10, none, .op .id [.val (.t (.bool false))]⟩]
abbrev debuggerlaw33_PacketDecodes.r1 : List Ins := [⟨some 25, none, .op (.fieldA 5) [.tmp 6]⟩,
  ⟨some 26, none, .op .load1 [.tmp 25]⟩,
  ⟨some 27, none, .op .len [.tmp 26]⟩,
  ⟨some 28, none, .op (.bin .gtr) [.tmp 27, .val (.t (.int .i64 200))]⟩,
  ⟨some 29, none, .op .id [.tmp 28]⟩,
  ⟨some 30, some (29, false), .op .id [.tmp 0]⟩,
  ⟨some 31, some (29, false), .op .len [.tmp 30]⟩,
  ⟨some 32, some (29, false), .op (.bin .gtr) [.tmp 31, .val (.t (.int .i64 8000))]⟩,
  ⟨some 33, none, .op .pick [.tmp 29, .val (.t (.bool true)), .tmp 32]⟩]
abbrev debuggerlaw33_PacketDecodes.r2 : List Ins := [⟨some 34, none, .call N.debuggerlaw33_awake []⟩,
  ⟨some 10, none, .op .id [.tmp 34]⟩]
abbrev debuggerlaw33_PacketDecodes.r3 : List Ins := [⟨some 36, none, .op (.loadN 6) [.tmp 6]⟩,
  ⟨some 37, none, .call N.debuggerlaw33_near [.tmp 36, .val (.t (.int .i64 11))]⟩,
  ⟨some 38, none, .call N.debuggerref33_Encode [.tmp 37]⟩,
  ⟨some 35, none, .op .id [.tmp 38]⟩,
  ⟨some 39, none, .op (.extract 0) [.tmp 35]⟩,
  ⟨some 40, none, .op (.extract 1) [.tmp 35]⟩,
  ⟨some 11, none, .op .id [.tmp 39]⟩,
  ⟨some 12, none, .op .id [.tmp 40]⟩]
abbrev debuggerlaw33_PacketDecodes.r4 : List Ins := [⟨some 41, none, .op (.buildSlice 1 (.int .u8 0) 0 []) []⟩,
  ⟨some 42, none, .op .id [.tmp 11]⟩,
  ⟨some 43, none, .op (.append 1 1) [.tmp 41, .tmp 42]⟩,
  ⟨some 13, none, .op .id [.tmp 43]⟩]
abbrev debuggerlaw33_PacketDecodes.r5 : List Ins := [⟨some 14, none, .op .id [.val (.t (.int .i64 0))]⟩]
abbrev debuggerlaw33_PacketDecodes.r6 : List Ins := [⟨some 44, none, .op .id [.tmp 14]⟩,
  ⟨some 45, none, .op .id [.tmp 2]⟩,
  ⟨some 46, none, .op .len [.tmp 45]⟩,
  ⟨some 47, none, .op (.bin .lss) [.tmp 44, .tmp 46]⟩,
  ⟨some 48, none, .op .id [.tmp 47]⟩,
  ⟨some 49, some (48, true), .op .id [.tmp 14]⟩,
  ⟨some 50, some (48, true), .op (.bin .lss) [.tmp 49, .val (.t (.int .i64 3))]⟩,
  ⟨some 51, none, .op .pick [.tmp 48, .tmp 50, .val (.t (.bool false))]⟩]
abbrev debuggerlaw33_PacketDecodes.r7 : List Ins := [⟨some 54, none, .op .id [.tmp 13]⟩,
  ⟨some 55, none, .op .id [.tmp 2]⟩,
  ⟨some 56, none, .op .id [.tmp 14]⟩,
  ⟨some 57, none, .op (.idxS 1) [.tmp 55, .tmp 56]⟩,
  ⟨some 58, none, .op .load1 [.tmp 57]⟩,
  ⟨some 59, none, .op .id [.tmp 13]⟩,
  ⟨some 60, none, .op .len [.tmp 59]⟩,
  ⟨some 61, none, .call N.debuggerkit_Mod [.tmp 58, .tmp 60]⟩,
  ⟨some 62, none, .op (.idxS 1) [.tmp 54, .tmp 61]⟩,
  ⟨some 63, none, .op .load1 [.tmp 62]⟩,
  ⟨some 64, none, .op .id [.tmp 3]⟩,
  ⟨some 65, none, .op (.bin .xor) [.tmp 63, .tmp 64]⟩,
  ⟨some 66, none, .op (.idxS 1) [.tmp 54, .tmp 61]⟩,
  ⟨none, none, .op (.store 1) [.tmp 66, .tmp 65]⟩]
abbrev debuggerlaw33_PacketDecodes.r8 : List Ins := [⟨some 52, none, .op .id [.tmp 14]⟩,
  ⟨some 53, none, .op (.bin .add) [.tmp 52, .val (.t (.int .i64 1))]⟩,
  ⟨some 14, none, .op .id [.tmp 53]⟩]
abbrev debuggerlaw33_PacketDecodes.l0 : Cd := (.seq (.seq (.rgn debuggerlaw33_PacketDecodes.r6) (.cond (.tmp 51) .skip (.exit 0))) (.seq (.block 1 (.rgn debuggerlaw33_PacketDecodes.r7)) (.rgn debuggerlaw33_PacketDecodes.r8)))
abbrev debuggerlaw33_PacketDecodes.r9 : List Ins := [⟨some 67, none, .op .id [.tmp 4]⟩,
  ⟨some 68, none, .op .id [.tmp 13]⟩,
  ⟨some 69, none, .op .len [.tmp 68]⟩,
  ⟨some 70, none, .op (.bin .sub) [.tmp 69, .val (.t (.int .i64 1))]⟩,
  ⟨some 71, none, .call N.debuggerkit_Mod [.tmp 67, .tmp 70]⟩,
  ⟨some 15, none, .op .id [.tmp 71]⟩]
abbrev debuggerlaw33_PacketDecodes.r10 : List Ins := [⟨some 72, none, .op (.buildSlice 1 (.int .u8 0) 0 []) []⟩,
  ⟨some 73, none, .op .id [.tmp 13]⟩,
  ⟨some 74, none, .op .id [.tmp 15]⟩,
  ⟨some 75, none, .op (.slice 1 false true) [.tmp 73, .tmp 74]⟩,
  ⟨some 76, none, .op (.append 1 1) [.tmp 72, .tmp 75]⟩,
  ⟨some 16, none, .op .id [.tmp 76]⟩]
abbrev debuggerlaw33_PacketDecodes.r11 : List Ins := [⟨some 77, none, .op .id [.tmp 16]⟩,
  ⟨some 78, none, .call N.debuggerref33_Sum [.tmp 77]⟩,
  ⟨some 17, none, .op .id [.tmp 78]⟩]
abbrev debuggerlaw33_PacketDecodes.r12 : List Ins := [⟨some 79, none, .op .id [.tmp 16]⟩,
  ⟨some 80, none, .op .id [.tmp 17]⟩,
  ⟨some 81, none, .op (.bin .quo) [.tmp 80, .val (.t (.int .i64 256))]⟩,
  ⟨some 82, none, .op (.conv .u8) [.tmp 81]⟩,
  ⟨some 83, none, .op .id [.tmp 17]⟩,
  ⟨some 84, none, .op (.bin .rem) [.tmp 83, .val (.t (.int .i64 256))]⟩,
  ⟨some 85, none, .op (.conv .u8) [.tmp 84]⟩,
  ⟨some 86, none, .op (.buildSlice 1 (.int .u8 0) 2 [0, 1]) [.tmp 82, .tmp 85]⟩,
  ⟨some 87, none, .op (.append 1 1) [.tmp 79, .tmp 86]⟩,
  ⟨some 16, none, .op .id [.tmp 87]⟩]
abbrev debuggerlaw33_PacketDecodes.r13 : List Ins := [⟨some 88, none, .op (.buildSlice 1 (.int .u8 0) 0 []) []⟩,
  ⟨some 89, none, .op .id [.tmp 13]⟩,
  ⟨some 90, none, .op .id [.tmp 13]⟩,
  ⟨some 91, none, .op .len [.tmp 90]⟩,
  ⟨some 92, none, .op (.bin .sub) [.tmp 91, .val (.t (.int .i64 2))]⟩,
  ⟨some 93, none, .op (.slice 1 false true) [.tmp 89, .tmp 92]⟩,
  ⟨some 94, none, .op (.append 1 1) [.tmp 88, .tmp 93]⟩,
  ⟨some 18, none, .op .id [.tmp 94]⟩]
abbrev debuggerlaw33_PacketDecodes.r14 : List Ins := [⟨some 95, none, .op .id [.tmp 18]⟩,
  ⟨some 96, none, .call N.debuggerref33_Sum [.tmp 95]⟩,
  ⟨some 17, none, .op .id [.tmp 96]⟩]
abbrev debuggerlaw33_PacketDecodes.r15 : List Ins := [⟨some 97, none, .op .id [.tmp 18]⟩,
  ⟨some 98, none, .op .id [.tmp 17]⟩,
  ⟨some 99, none, .op (.bin .quo) [.tmp 98, .val (.t (.int .i64 256))]⟩,
  ⟨some 100, none, .op (.conv .u8) [.tmp 99]⟩,
  ⟨some 101, none, .op .id [.tmp 17]⟩,
  ⟨some 102, none, .op (.bin .rem) [.tmp 101, .val (.t (.int .i64 256))]⟩,
  ⟨some 103, none, .op (.conv .u8) [.tmp 102]⟩,
  ⟨some 104, none, .op (.buildSlice 1 (.int .u8 0) 2 [0, 1]) [.tmp 100, .tmp 103]⟩,
  ⟨some 105, none, .op (.append 1 1) [.tmp 97, .tmp 104]⟩,
  ⟨some 18, none, .op .id [.tmp 105]⟩]
abbrev debuggerlaw33_PacketDecodes.r16 : List Ins := [⟨some 106, none, .op .id [.tmp 0]⟩,
  ⟨some 107, none, .op .id [.tmp 11]⟩,
  ⟨some 108, none, .op .id [.tmp 13]⟩,
  ⟨some 109, none, .op .id [.tmp 16]⟩,
  ⟨some 110, none, .op .id [.tmp 18]⟩,
  ⟨some 111, none, .op (.buildSlice 1 (.lst 0 true []) 5 [0, 1, 2, 3, 4]) [.tmp 106, .tmp 107, .tmp 108, .tmp 109, .tmp 110]⟩,
  ⟨some 112, none, .op .len [.tmp 111]⟩,
  ⟨some 113, none, .op .id [.val (.t (.int .i64 0))]⟩]
abbrev debuggerlaw33_PacketDecodes.r17 : List Ins := [⟨some 114, none, .op (.bin .lss) [.tmp 113, .tmp 112]⟩]
abbrev debuggerlaw33_PacketDecodes.r18 : List Ins := [⟨some 115, none, .op (.idxS 1) [.tmp 111, .tmp 113]⟩,
  ⟨some 116, none, .op .load1 [.tmp 115]⟩,
  ⟨some 20, none, .op .id [.tmp 116]⟩]
abbrev debuggerlaw33_PacketDecodes.r19 : List Ins := [⟨some 118, none, .op .id [.tmp 20]⟩,
  ⟨some 119, none, .call N.packet_Decode [.tmp 118]⟩,
  ⟨some 117, none, .op .id [.tmp 119]⟩,
  ⟨some 120, none, .op (.extract 0) [.tmp 117]⟩,
  ⟨some 121, none, .op (.extract 1) [.tmp 117]⟩,
  ⟨some 21, none, .op (.alloc [(.int .i64 0), (.int .i64 0), (.int .i64 0), (.int .i64 0), (.int .i64 0), (.lst 0 true [])]) []⟩,
  ⟨none, none, .op (.store 6) [.tmp 21, .tmp 120]⟩,
  ⟨some 22, none, .op .id [.tmp 121]⟩]
abbrev debuggerlaw33_PacketDecodes.r20 : List Ins := [⟨some 123, none, .op .id [.tmp 20]⟩,
  ⟨some 124, none, .call N.debuggerref33_Decode [.tmp 123]⟩,
  ⟨some 122, none, .op .id [.tmp 124]⟩,
  ⟨some 125, none, .op (.extract 0) [.tmp 122]⟩,
  ⟨some 126, none, .op (.extract 1) [.tmp 122]⟩,
  ⟨some 23, none, .op (.alloc [(.int .i64 0), (.int .i64 0), (.int .i64 0), (.int .i64 0), (.int .i64 0), (.lst 0 true [])]) []⟩,
  ⟨none, none, .op (.store 6) [.tmp 23, .tmp 125]⟩,
  ⟨some 24, none, .op .id [.tmp 126]⟩]
abbrev debuggerlaw33_PacketDecodes.r21 : List Ins := [⟨some 127, none, .op .id [.tmp 22]⟩,
  ⟨some 128, none, .op .id [.tmp 24]⟩,
  ⟨some 129, none, .op (.bin .neq) [.tmp 127, .tmp 128]⟩,
  ⟨some 130, none, .op .id [.tmp 129]⟩,
  ⟨some 131, some (130, false), .op (.loadN 6) [.tmp 21]⟩,
  ⟨some 132, some (130, false), .op (.loadN 6) [.tmp 23]⟩,
  ⟨some 133, some (130, false), .call N.debuggerref33_Same [.tmp 131, .tmp 132]⟩,
  ⟨some 134, some (130, false), .op (.un .not) [.tmp 133]⟩,
  ⟨some 135, none, .op .pick [.tmp 130, .val (.t (.bool true)), .tmp 134]⟩]
abbrev debuggerlaw33_PacketDecodes.r22 : List Ins := [⟨some 10, none, .op .id [.val (.t (.bool false))]⟩]
abbrev debuggerlaw33_PacketDecodes.r23 : List Ins := [⟨some 136, none, .op (.bin .add) [.tmp 113, .val (.t (.int .i64 1))]⟩,
  ⟨some 113, none, .op .id [.tmp 136]⟩]
abbrev debuggerlaw33_PacketDecodes.l1 : Cd := (.seq (.rgn debuggerlaw33_PacketDecodes.r17) (.seq (.cond (.tmp 114) .skip (.exit 2)) (.seq (.block 3 (.seq (.rgn debuggerlaw33_PacketDecodes.r18) (.seq (.rgn debuggerlaw33_PacketDecodes.r19) (.seq (.rgn debuggerlaw33_PacketDecodes.r20) (.seq (.rgn debuggerlaw33_PacketDecodes.r21) (.cond (.tmp 135) (.seq (.rgn debuggerlaw33_PacketDecodes.r22) .ret) .skip)))))) (.rgn debuggerlaw33_PacketDecodes.r23))))
abbrev debuggerlaw33_PacketDecodes.r24 : List Ins := [⟨some 137, none, .call N.debuggerlaw33_awake []⟩,
  ⟨some 10, none, .op .id [.tmp 137]⟩]
abbrev debuggerlaw33_PacketDecodes.body : Cd := (.seq (.rgn debuggerlaw33_PacketDecodes.r0) (.seq (.seq (.rgn debuggerlaw33_PacketDecodes.r1) (.cond (.tmp 33) (.seq (.rgn debuggerlaw33_PacketDecodes.r2) .ret) .skip)) (.seq (.rgn debuggerlaw33_PacketDecodes.r3) (.seq (.rgn debuggerlaw33_PacketDecodes.r4) (.seq (.seq (.rgn debuggerlaw33_PacketDecodes.r5) (.block 0 (.loop debuggerlaw33_PacketDecodes.l0))) (.seq (.rgn debuggerlaw33_PacketDecodes.r9) (.seq (.rgn debuggerlaw33_PacketDecodes.r10) (.seq (.rgn debuggerlaw33_PacketDecodes.r11) (.seq (.rgn debuggerlaw33_PacketDecodes.r12) (.seq (.rgn debuggerlaw33_PacketDecodes.r13) (.seq (.rgn debuggerlaw33_PacketDecodes.r14) (.seq (.rgn debuggerlaw33_PacketDecodes.r15) (.seq (.seq (.rgn debuggerlaw33_PacketDecodes.r16) (.block 2 (.loop debuggerlaw33_PacketDecodes.l1))) (.seq (.rgn debuggerlaw33_PacketDecodes.r24) .ret))))))))))))))
def debuggerlaw33_PacketDecodes.af : AF := ⟨5, 138, [.tmp 10], debuggerlaw33_PacketDecodes.body⟩
theorem debuggerlaw33_PacketDecodes.ok : cFunc PP [] Try.f10 = some debuggerlaw33_PacketDecodes.af := by kernel_rfl
theorem debuggerlaw33_PacketDecodes.intro {args : List V} {H : Heap} {Q : V → Heap → Prop} (hlen : args.length ≤ 138) (h : wpC (SCall PP) H.length debuggerlaw33_PacketDecodes.body (exitK H.length [.tmp 10] Q) ⟨initVs 0 args, H⟩) : SCall PP N.debuggerlaw33_PacketDecodes args H Q :=
  SCall.intro Try.func10 (by kernel_rfl) debuggerlaw33_PacketDecodes.ok hlen h
/-! ### debugger/debuggerlaw33.PacketBursts -/
abbrev debuggerlaw33_PacketBursts.r0 : List Ins := [⟨some 3, none, .op .box [.tmp 0]⟩,
  ⟨some 6, none, .op .id [.val (.t (.bool false))]⟩]
abbrev debuggerlaw33_PacketBursts.r1 : List Ins := [⟨some 15, none, .op (.loadN 6) [.tmp 3]⟩,
  ⟨some 16, none, .call N.debuggerlaw33_near [.tmp 15, .val (.t (.int .i64 11))]⟩,
  ⟨some 17, none, .call N.packet_Encode [.tmp 16]⟩,
  ⟨some 14, none, .op .id [.tmp 17]⟩,
  ⟨some 18, none, .op (.extract 0) [.tmp 14]⟩,
  ⟨some 19, none, .op (.extract 1) [.tmp 14]⟩,
  ⟨some 7, none, .op .id [.tmp 18]⟩,
  ⟨some 8, none, .op .id [.tmp 19]⟩]
abbrev debuggerlaw33_PacketBursts.r2 : List Ins := [⟨some 20, none, .op (.fieldA 5) [.tmp 3]⟩,
  ⟨some 21, none, .op .load1 [.tmp 20]⟩,
  ⟨some 22, none, .op .len [.tmp 21]⟩,
  ⟨some 23, none, .op (.bin .gtr) [.tmp 22, .val (.t (.int .i64 300))]⟩]
abbrev debuggerlaw33_PacketBursts.r3 : List Ins := [⟨some 24, none, .call N.debuggerlaw33_awake []⟩,
  ⟨some 6, none, .op .id [.tmp 24]⟩]
abbrev debuggerlaw33_PacketBursts.r4 : List Ins := [⟨some 25, none, .op .id [.tmp 8]⟩,
  ⟨some 26, none, .op (.bin .neq) [.tmp 25, .val (.t (.int .i64 0))]⟩,
  ⟨some 27, none, .op .id [.tmp 26]⟩,
  ⟨some 28, some (27, false), .op .id [.tmp 7]⟩,
  ⟨some 29, some (27, false), .op .len [.tmp 28]⟩,
  ⟨some 30, some (27, false), .op (.bin .lss) [.tmp 29, .val (.t (.int .i64 4))]⟩,
  ⟨some 31, none, .op .pick [.tmp 27, .val (.t (.bool true)), .tmp 30]⟩]
abbrev debuggerlaw33_PacketBursts.r5 : List Ins := [⟨some 6, none, .op .id [.val (.t (.bool false))]⟩]
abbrev debuggerlaw33_PacketBursts.r6 : List Ins := [⟨some 32, none, .op (.buildSlice 1 (.int .u8 0) 0 []) []⟩,
  ⟨some 33, none, .op .id [.tmp 7]⟩,
  ⟨some 34, none, .op (.append 1 1) [.tmp 32, .tmp 33]⟩,
  ⟨some 9, none, .op .id [.tmp 34]⟩]
abbrev debuggerlaw33_PacketBursts.r7 : List Ins := [⟨some 35, none, .op .id [.tmp 1]⟩,
  ⟨some 36, none, .op .id [.tmp 9]⟩,
  ⟨some 37, none, .op .len [.tmp 36]⟩,
  ⟨some 38, none, .op (.bin .mul) [.tmp 37, .val (.t (.int .i64 8))]⟩,
  ⟨some 39, none, .call N.debuggerkit_Mod [.tmp 35, .tmp 38]⟩,
  ⟨some 10, none, .op .id [.tmp 39]⟩]
abbrev debuggerlaw33_PacketBursts.r8 : List Ins := [⟨some 11, none, .op .id [.val (.t (.int .i64 0))]⟩]
abbrev debuggerlaw33_PacketBursts.r9 : List Ins := [⟨some 40, none, .op .id [.tmp 11]⟩,
  ⟨some 41, none, .op (.bin .lss) [.tmp 40, .val (.t (.int .i64 16))]⟩,
  ⟨some 42, none, .op .id [.tmp 41]⟩,
  ⟨some 43, some (42, true), .op .id [.tmp 10]⟩,
  ⟨some 44, some (42, true), .op .id [.tmp 11]⟩,
  ⟨some 45, some (42, true), .op (.bin .add) [.tmp 43, .tmp 44]⟩,
  ⟨some 46, some (42, true), .op .id [.tmp 9]⟩,
  ⟨some 47, some (42, true), .op .len [.tmp 46]⟩,
  ⟨some 48, some (42, true), .op (.bin .mul) [.tmp 47, .val (.t (.int .i64 8))]⟩,
  ⟨some 49, some (42, true), .op (.bin .lss) [.tmp 45, .tmp 48]⟩,
  ⟨some 50, none, .op .pick [.tmp 42, .tmp 49, .val (.t (.bool false))]⟩]
abbrev debuggerlaw33_PacketBursts.r10 : List Ins := [⟨some 53, none, .op .id [.tmp 2]⟩,
  ⟨some 54, none, .op .id [.tmp 11]⟩,
  ⟨some 55, none, .op (.conv .u64) [.tmp 54]⟩,
  ⟨some 56, none, .op (.bin .shr) [.tmp 53, .tmp 55]⟩,
  ⟨some 57, none, .op (.bin .and) [.tmp 56, .val (.t (.int .i64 1))]⟩,
  ⟨some 58, none, .op (.bin .eql) [.tmp 57, .val (.t (.int .i64 1))]⟩]
abbrev debuggerlaw33_PacketBursts.r11 : List Ins := [⟨some 59, none, .op .id [.tmp 9]⟩,
  ⟨some 60, none, .op .id [.tmp 10]⟩,
  ⟨some 61, none, .op .id [.tmp 11]⟩,
  ⟨some 62, none, .op (.bin .add) [.tmp 60, .tmp 61]⟩,
  ⟨some 63, none, .op (.bin .quo) [.tmp 62, .val (.t (.int .i64 8))]⟩,
  ⟨some 64, none, .op (.idxS 1) [.tmp 59, .tmp 63]⟩,
  ⟨some 65, none, .op .load1 [.tmp 64]⟩,
  ⟨some 66, none, .op .id [.tmp 10]⟩,
  ⟨some 67, none, .op .id [.tmp 11]⟩,
  ⟨some 68, none, .op (.bin .add) [.tmp 66, .tmp 67]⟩,
  ⟨some 69, none, .op (.bin .rem) [.tmp 68, .val (.t (.int .i64 8))]⟩,
  ⟨some 70, none, .op (.conv .u64) [.tmp 69]⟩,
  ⟨some 71, none, .op (.bin .shr) [.val (.t (.int .u8 128)), .tmp 70]⟩,
  ⟨some 72, none, .op (.bin .xor) [.tmp 65, .tmp 71]⟩,
  ⟨some 73, none, .op (.idxS 1) [.tmp 59, .tmp 63]⟩,
  ⟨none, none, .op (.store 1) [.tmp 73, .tmp 72]⟩]
abbrev debuggerlaw33_PacketBursts.r12 : List Ins := [⟨some 51, none, .op .id [.tmp 11]⟩,
  ⟨some 52, none, .op (.bin .add) [.tmp 51, .val (.t (.int .i64 1))]⟩,
  ⟨some 11, none, .op .id [.tmp 52]⟩]
abbrev debuggerlaw33_PacketBursts.l0 : Cd := (.seq (.seq (.rgn debuggerlaw33_PacketBursts.r9) (.cond (.tmp 50) .skip (.exit 0))) (.seq (.block 1 (.seq (.rgn debuggerlaw33_PacketBursts.r10) (.cond (.tmp 58) (.rgn debuggerlaw33_PacketBursts.r11) .skip))) (.rgn debuggerlaw33_PacketBursts.r12)))
abbrev debuggerlaw33_PacketBursts.r13 : List Ins := [⟨some 75, none, .op .id [.tmp 9]⟩,
  ⟨some 76, none, .call N.packet_Decode [.tmp 75]⟩,
  ⟨some 74, none, .op .id [.tmp 76]⟩,
  ⟨some 77, none, .op (.extract 0) [.tmp 74]⟩,
  ⟨some 78, none, .op (.extract 1) [.tmp 74]⟩,
  ⟨some 12, none, .op (.alloc [(.int .i64 0), (.int .i64 0), (.int .i64 0), (.int .i64 0), (.int .i64 0), (.lst 0 true [])]) []⟩,
  ⟨none, none, .op (.store 6) [.tmp 12, .tmp 77]⟩,
  ⟨some 13, none, .op .id [.tmp 78]⟩]
abbrev debuggerlaw33_PacketBursts.r14 : List Ins := [⟨some 79, none, .op .id [.tmp 9]⟩,
  ⟨some 80, none, .op .toStr [.tmp 79]⟩,
  ⟨some 81, none, .op .id [.tmp 7]⟩,
  ⟨some 82, none, .op .toStr [.tmp 81]⟩,
  ⟨some 83, none, .op (.bin .eql) [.tmp 80, .tmp 82]⟩,
  ⟨some 84, none, .op .id [.tmp 83]⟩,
  ⟨some 85, some (84, false), .op .id [.tmp 13]⟩,
  ⟨some 86, some (84, false), .op (.bin .eql) [.tmp 85, .val (.t (.int .i64 28))]⟩,
  ⟨some 87, none, .op .pick [.tmp 84, .val (.t (.bool true)), .tmp 86]⟩,
  ⟨some 88, none, .op .id [.tmp 87]⟩,
  ⟨some 89, some (88, true), .call N.debuggerlaw33_awake []⟩,
  ⟨some 90, none, .op .pick [.tmp 88, .tmp 89, .val (.t (.bool false))]⟩,
  ⟨some 6, none, .op .id [.tmp 90]⟩]
abbrev debuggerlaw33_PacketBursts.body : Cd := (.seq (.rgn debuggerlaw33_PacketBursts.r0) (.seq (.rgn debuggerlaw33_PacketBursts.r1) (.seq (.seq (.rgn debuggerlaw33_PacketBursts.r2) (.cond (.tmp 23) (.seq (.rgn debuggerlaw33_PacketBursts.r3) .ret) .skip)) (.seq (.seq (.rgn debuggerlaw33_PacketBursts.r4) (.cond (.tmp 31) (.seq (.rgn debuggerlaw33_PacketBursts.r5) .ret) .skip)) (.seq (.rgn debuggerlaw33_PacketBursts.r6) (.seq (.rgn debuggerlaw33_PacketBursts.r7) (.seq (.seq (.rgn debuggerlaw33_PacketBursts.r8) (.block 0 (.loop debuggerlaw33_PacketBursts.l0))) (.seq (.rgn debuggerlaw33_PacketBursts.r13) (.seq (.rgn debuggerlaw33_PacketBursts.r14) .ret)))))))))
def debuggerlaw33_PacketBursts.af : AF := ⟨3, 91, [.tmp 6], debuggerlaw33_PacketBursts.body⟩
theorem debuggerlaw33_PacketBursts.ok : cFunc PP [] Try.f11 = some debuggerlaw33_PacketBursts.af := by kernel_rfl
theorem debuggerlaw33_PacketBursts.intro {args : List V} {H : Heap} {Q : V → Heap → Prop} (hlen : args.length ≤ 91) (h : wpC (SCall PP) H.length debuggerlaw33_PacketBursts.body (exitK H.length [.tmp 6] Q) ⟨initVs 0 args, H⟩) : SCall PP N.debuggerlaw33_PacketBursts args H Q :=
  SCall.intro Try.func11 (by kernel_rfl) debuggerlaw33_PacketBursts.ok hlen h
/-! ### debugger/debuggerlaw33.PacketOne -/
abbrev debuggerlaw33_PacketOne.r0 : List Ins := [⟨some 3, none, .op .box [.tmp 0]⟩,
  ⟨some 4, none, .op .box [.tmp 1]⟩,
  ⟨some 6, none, .op .id [.val (.t (.bool false))]⟩]
abbrev debuggerlaw33_PacketOne.r1 : List Ins := [⟨some 17, none, .op (.fieldA 5) [.tmp 3]⟩,
  ⟨some 18, none, .op .load1 [.tmp 17]⟩,
  ⟨some 19, none, .op .len [.tmp 18]⟩,
  ⟨some 20, none, .op (.bin .gtr) [.tmp 19, .val (.t (.int .i64 300))]⟩,
  ⟨some 21, none, .op .id [.tmp 20]⟩,
  ⟨some 22, some (21, false), .op (.fieldA 5) [.tmp 4]⟩,
  ⟨some 23, some (21, false), .op .load1 [.tmp 22]⟩,
  ⟨some 24, some (21, false), .op .len [.tmp 23]⟩,
  ⟨some 25, some (21, false), .op (.bin .gtr) [.tmp 24, .val (.t (.int .i64 300))]⟩,
  ⟨some 26, none, .op .pick [.tmp 21, .val (.t (.bool true)), .tmp 25]⟩,
  ⟨some 27, none, .op .id [.tmp 26]⟩,
  ⟨some 28, some (27, false), .op .id [.tmp 2]⟩,
  ⟨some 29, some (27, false), .op .len [.tmp 28]⟩,
  ⟨some 30, some (27, false), .op (.bin .gtr) [.tmp 29, .val (.t (.int .i64 500))]⟩,
  ⟨some 31, none, .op .pick [.tmp 27, .val (.t (.bool true)), .tmp 30]⟩]
abbrev debuggerlaw33_PacketOne.r2 : List Ins := [⟨some 32, none, .call N.debuggerlaw33_awake []⟩,
  ⟨some 6, none, .op .id [.tmp 32]⟩]
abbrev debuggerlaw33_PacketOne.d0 : Plan := (.val ⟨some 33, none, .op (.loadN 6) [.tmp 3]⟩
  (.val ⟨some 35, none, .op (.loadN 6) [.tmp 4]⟩
  (.eff ⟨some 34, none, .call N.debuggerlaw33_near [.tmp 33, .val (.t (.int .i64 11))]⟩ [⟨some 35, none, .op (.loadN 6) [.tmp 4]⟩]
  (.eff ⟨some 36, none, .call N.debuggerlaw33_near [.tmp 35, .val (.t (.int .i64 11))]⟩ []
  (.eff ⟨none, none, .op (.store 6) [.tmp 3, .tmp 34]⟩ []
  (.eff ⟨none, none, .op (.store 6) [.tmp 4, .tmp 36]⟩ []
  .fin))))))
abbrev debuggerlaw33_PacketOne.r3 : List Ins := [⟨some 38, none, .op (.loadN 6) [.tmp 3]⟩,
  ⟨some 39, none, .call N.packet_Encode [.tmp 38]⟩,
  ⟨some 37, none, .op .id [.tmp 39]⟩,
  ⟨some 40, none, .op (.extract 0) [.tmp 37]⟩,
  ⟨some 41, none, .op (.extract 1) [.tmp 37]⟩,
  ⟨some 7, none, .op .id [.tmp 40]⟩,
  ⟨some 8, none, .op .id [.tmp 41]⟩]
abbrev debuggerlaw33_PacketOne.r4 : List Ins := [⟨some 43, none, .op (.loadN 6) [.tmp 4]⟩,
  ⟨some 44, none, .call N.packet_Encode [.tmp 43]⟩,
  ⟨some 42, none, .op .id [.tmp 44]⟩,
  ⟨some 45, none, .op (.extract 0) [.tmp 42]⟩,
  ⟨some 46, none, .op (.extract 1) [.tmp 42]⟩,
  ⟨some 9, none, .op .id [.tmp 45]⟩,
  ⟨some 10, none, .op .id [.tmp 46]⟩]
abbrev debuggerlaw33_PacketOne.d1 : Plan := (.val ⟨some 47, none, .op .id [.tmp 8]⟩
  (.val ⟨some 48, none, .op (.bin .neq) [.tmp 47, .val (.t (.int .i64 0))]⟩
  (.val ⟨some 49, none, .op .id [.tmp 48]⟩
  (.val ⟨some 50, some (49, false), .op .id [.tmp 10]⟩
  (.val ⟨some 51, some (49, false), .op (.bin .neq) [.tmp 50, .val (.t (.int .i64 0))]⟩
  (.val ⟨some 52, none, .op .pick [.tmp 49, .val (.t (.bool true)), .tmp 51]⟩
  (.val ⟨some 53, none, .op .id [.tmp 52]⟩
  (.val ⟨some 54, some (53, false), .op .id [.tmp 7]⟩
  (.val ⟨some 55, some (53, false), .op .toStr [.tmp 54]⟩
  (.val ⟨some 56, some (53, false), .op .id [.tmp 9]⟩
  (.val ⟨some 57, some (53, false), .op .toStr [.tmp 56]⟩
  (.val ⟨some 58, some (53, false), .op (.bin .eql) [.tmp 55, .tmp 57]⟩
  (.val ⟨some 59, some (53, false), .op (.loadN 6) [.tmp 3]⟩
  (.val ⟨some 60, some (53, false), .op (.loadN 6) [.tmp 4]⟩
  (.eff ⟨some 61, some (53, false), .call N.debuggerref33_Same [.tmp 59, .tmp 60]⟩ [⟨some 55, some (53, false), .op .toStr [.tmp 54]⟩, ⟨some 57, some (53, false), .op .toStr [.tmp 56]⟩]
  (.val ⟨some 62, some (53, false), .op (.binB .neq) [.tmp 58, .tmp 61]⟩
  (.val ⟨some 63, none, .op .pick [.tmp 53, .val (.t (.bool true)), .tmp 62]⟩
  .fin)))))))))))))))))
abbrev debuggerlaw33_PacketOne.r5 : List Ins := [⟨some 6, none, .op .id [.val (.t (.bool false))]⟩]
abbrev debuggerlaw33_PacketOne.r6 : List Ins := [⟨some 64, none, .op .id [.tmp 2]⟩,
  ⟨some 65, none, .call N.packet_Sum [.tmp 64]⟩,
  ⟨some 11, none, .op .id [.tmp 65]⟩]
abbrev debuggerlaw33_PacketOne.r7 : List Ins := [⟨some 66, none, .op (.buildSlice 1 (.int .u8 0) 0 []) []⟩,
  ⟨some 67, none, .op .id [.tmp 2]⟩,
  ⟨some 68, none, .op (.append 1 1) [.tmp 66, .tmp 67]⟩,
  ⟨some 69, none, .op .id [.tmp 11]⟩,
  ⟨some 70, none, .op (.bin .quo) [.tmp 69, .val (.t (.int .i64 256))]⟩,
  ⟨some 71, none, .op (.conv .u8) [.tmp 70]⟩,
  ⟨some 72, none, .op .id [.tmp 11]⟩,
  ⟨some 73, none, .op (.bin .rem) [.tmp 72, .val (.t (.int .i64 256))]⟩,
  ⟨some 74, none, .op (.conv .u8) [.tmp 73]⟩,
  ⟨some 75, none, .op (.buildSlice 1 (.int .u8 0) 2 [0, 1]) [.tmp 71, .tmp 74]⟩,
  ⟨some 76, none, .op (.append 1 1) [.tmp 68, .tmp 75]⟩,
  ⟨some 12, none, .op .id [.tmp 76]⟩]
abbrev debuggerlaw33_PacketOne.r8 : List Ins := [⟨some 78, none, .op .id [.tmp 12]⟩,
  ⟨some 79, none, .call N.packet_Decode [.tmp 78]⟩,
  ⟨some 77, none, .op .id [.tmp 79]⟩,
  ⟨some 80, none, .op (.extract 0) [.tmp 77]⟩,
  ⟨some 81, none, .op (.extract 1) [.tmp 77]⟩,
  ⟨some 13, none, .op (.alloc [(.int .i64 0), (.int .i64 0), (.int .i64 0), (.int .i64 0), (.int .i64 0), (.lst 0 true [])]) []⟩,
  ⟨none, none, .op (.store 6) [.tmp 13, .tmp 80]⟩,
  ⟨some 14, none, .op .id [.tmp 81]⟩]
abbrev debuggerlaw33_PacketOne.r9 : List Ins := [⟨some 82, none, .op .id [.tmp 14]⟩,
  ⟨some 83, none, .op (.bin .neq) [.tmp 82, .val (.t (.int .i64 0))]⟩]
abbrev debuggerlaw33_PacketOne.r10 : List Ins := [⟨some 84, none, .call N.debuggerlaw33_awake []⟩,
  ⟨some 6, none, .op .id [.tmp 84]⟩]
abbrev debuggerlaw33_PacketOne.r11 : List Ins := [⟨some 86, none, .op (.loadN 6) [.tmp 13]⟩,
  ⟨some 87, none, .call N.packet_Encode [.tmp 86]⟩,
  ⟨some 85, none, .op .id [.tmp 87]⟩,
  ⟨some 88, none, .op (.extract 0) [.tmp 85]⟩,
  ⟨some 89, none, .op (.extract 1) [.tmp 85]⟩,
  ⟨some 15, none, .op .id [.tmp 88]⟩,
  ⟨some 16, none, .op .id [.tmp 89]⟩]
abbrev debuggerlaw33_PacketOne.r12 : List Ins := [⟨some 90, none, .op .id [.tmp 16]⟩,
  ⟨some 91, none, .op (.bin .eql) [.tmp 90, .val (.t (.int .i64 0))]⟩,
  ⟨some 92, none, .op .id [.tmp 91]⟩,
  ⟨some 93, some (92, true), .op .id [.tmp 15]⟩,
  ⟨some 94, some (92, true), .op .toStr [.tmp 93]⟩,
  ⟨some 95, some (92, true), .op .id [.tmp 12]⟩,
  ⟨some 96, some (92, true), .op .toStr [.tmp 95]⟩,
  ⟨some 97, some (92, true), .op (.bin .eql) [.tmp 94, .tmp 96]⟩,
  ⟨some 98, none, .op .pick [.tmp 92, .tmp 97, .val (.t (.bool false))]⟩,
  ⟨some 99, none, .op .id [.tmp 98]⟩,
  ⟨some 100, some (99, true), .call N.debuggerlaw33_awake []⟩,
  ⟨some 101, none, .op .pick [.tmp 99, .tmp 100, .val (.t (.bool false))]⟩,
  ⟨some 6, none, .op .id [.tmp 101]⟩]
abbrev debuggerlaw33_PacketOne.body : Cd := (.seq (.rgn debuggerlaw33_PacketOne.r0) (.seq (.seq (.rgn debuggerlaw33_PacketOne.r1) (.cond (.tmp 31) (.seq (.rgn debuggerlaw33_PacketOne.r2) .ret) .skip)) (.seq (.rgnD debuggerlaw33_PacketOne.d0) (.seq (.rgn debuggerlaw33_PacketOne.r3) (.seq (.rgn debuggerlaw33_PacketOne.r4) (.seq (.seq (.rgnD debuggerlaw33_PacketOne.d1) (.cond (.tmp 63) (.seq (.rgn debuggerlaw33_PacketOne.r5) .ret) .skip)) (.seq (.rgn debuggerlaw33_PacketOne.r6) (.seq (.rgn debuggerlaw33_PacketOne.r7) (.seq (.rgn debuggerlaw33_PacketOne.r8) (.seq (.seq (.rgn debuggerlaw33_PacketOne.r9) (.cond (.tmp 83) (.seq (.rgn debuggerlaw33_PacketOne.r10) .ret) .skip)) (.seq (.rgn debuggerlaw33_PacketOne.r11) (.seq (.rgn debuggerlaw33_PacketOne.r12) .ret))))))))))))
def debuggerlaw33_PacketOne.af : AF := ⟨3, 102, [.tmp 6], debuggerlaw33_PacketOne.body⟩
theorem debuggerlaw33_PacketOne.ok : cFunc PP [] Try.f12 = some debuggerlaw33_PacketOne.af := by kernel_rfl
theorem debuggerlaw33_PacketOne.intro {args : List V} {H : Heap} {Q : V → Heap → Prop} (hlen : args.length ≤ 102) (h : wpC (SCall PP) H.length debuggerlaw33_PacketOne.body (exitK H.length [.tmp 6] Q) ⟨initVs 0 args, H⟩) : SCall PP N.debuggerlaw33_PacketOne args H Q :=
  SCall.intro Try.func12 (by kernel_rfl) debuggerlaw33_PacketOne.ok hlen h
/-! ### debugger/debuggerlaw33.awake -/
abbrev debuggerlaw33_awake.r0 : List Ins := [⟨some 0, none, .op .id [.val (.t (.bool false))]⟩]
abbrev debuggerlaw33_awake.r1 : List Ins := [⟨some 4, none, .op (.build [(.int .i64 0), (.int .i64 0), (.int .i64 0), (.int .i64 0), (.int .i64 0), (.lst 0 true [])] [(0, 1), (1, 1)]) [.val (.t (.int .i64 3)), .val (.t (.int .i64 1))]⟩,
  ⟨some 5, none, .call N.packet_Encode [.tmp 4]⟩,
  ⟨some 3, none, .op .id [.tmp 5]⟩,
  ⟨some 6, none, .op (.extract 0) [.tmp 3]⟩,
  ⟨some 7, none, .op (.extract 1) [.tmp 3]⟩,
  ⟨some 1, none, .op .id [.tmp 6]⟩,
  ⟨some 2, none, .op .id [.tmp 7]⟩]
abbrev debuggerlaw33_awake.r2 : List Ins := [⟨some 8, none, .op (.buildRow 1 (.int .u8 0) 9 [0, 1, 2, 3, 4, 5, 6, 7, 8]) [.val (.t (.int .u8 49)), .val (.t (.int .u8 50)), .val (.t (.int .u8 51)), .val (.t (.int .u8 52)), .val (.t (.int .u8 53)), .val (.t (.int .u8 54)), .val (.t (.int .u8 55)), .val (.t (.int .u8 56)), .val (.t (.int .u8 57))]⟩,
  ⟨some 9, none, .op .mark [.tmp 8]⟩,
  ⟨some 10, none, .call N.packet_Sum [.tmp 9]⟩,
  ⟨some 11, none, .op (.bin .eql) [.tmp 10, .val (.t (.int .i64 10673))]⟩,
  ⟨some 12, none, .op .id [.tmp 11]⟩,
  ⟨some 13, some (12, true), .op .id [.tmp 2]⟩,
  ⟨some 14, some (12, true), .op (.bin .eql) [.tmp 13, .val (.t (.int .i64 0))]⟩,
  ⟨some 15, none, .op .pick [.tmp 12, .tmp 14, .val (.t (.bool false))]⟩,
  ⟨some 16, none, .op .id [.tmp 15]⟩,
  ⟨some 17, some (16, true), .op .id [.tmp 1]⟩,
  ⟨some 18, some (16, true), .op .len [.tmp 17]⟩,
  ⟨some 19, some (16, true), .op (.bin .eql) [.tmp 18, .val (.t (.int .i64 8))]⟩,
  ⟨some 20, none, .op .pick [.tmp 16, .tmp 19, .val (.t (.bool false))]⟩,
  ⟨some 0, none, .op .id [.tmp 20]⟩]
abbrev debuggerlaw33_awake.body : Cd := (.seq (.rgn debuggerlaw33_awake.r0) (.seq (.rgn debuggerlaw33_awake.r1) (.seq (.rgn debuggerlaw33_awake.r2) .ret)))
def debuggerlaw33_awake.af : AF := ⟨0, 21, [.tmp 0], debuggerlaw33_awake.body⟩
theorem debuggerlaw33_awake.ok : cFunc PP [0, 1, 2, 3, 4, 5] Try.f25 = some debuggerlaw33_awake.af := by kernel_rfl
theorem debuggerlaw33_awake.intro {args : List V} {H : Heap} {Q : V → Heap → Prop} (hlen : args.length ≤ 21) (h : wpC (SCall PP) H.length debuggerlaw33_awake.body (exitK H.length [.tmp 0] Q) ⟨initVs 0 args, H⟩) : SCall PP N.debuggerlaw33_awake args H Q :=
  SCall.intro Try.func25 (by kernel_rfl) debuggerlaw33_awake.ok hlen h
/-! ### debugger/debuggerlaw33.near -/
abbrev debuggerlaw33_near.r0 : List Ins := [⟨some 2, none, .op .box [.tmp 0]⟩,
  ⟨some 4, none, .op (.alloc [(.int .i64 0), (.int .i64 0), (.int .i64 0), (.int .i64 0), (.int .i64 0), (.lst 0 true [])]) []⟩]
abbrev debuggerlaw33_near.r1 : List Ins := [⟨some 5, none, .op (.fieldA 0) [.tmp 2]⟩,
  ⟨some 6, none, .op .load1 [.tmp 5]⟩,
  ⟨some 7, none, .call N.debuggerkit_Mod [.tmp 6, .val (.t (.int .i64 3))]⟩,
  ⟨some 8, none, .op (.bin .add) [.val (.t (.int .i64 1)), .tmp 7]⟩,
  ⟨some 9, none, .op (.fieldA 0) [.tmp 2]⟩,
  ⟨none, none, .op (.store 1) [.tmp 9, .tmp 8]⟩]
abbrev debuggerlaw33_near.d0 : Plan := (.val ⟨some 10, none, .op (.fieldA 1) [.tmp 2]⟩
  (.val ⟨some 11, none, .op .load1 [.tmp 10]⟩
  (.val ⟨some 14, none, .op (.fieldA 2) [.tmp 2]⟩
  (.val ⟨some 15, none, .op .load1 [.tmp 14]⟩
  (.val ⟨some 17, none, .op (.fieldA 4) [.tmp 2]⟩
  (.val ⟨some 18, none, .op .load1 [.tmp 17]⟩
  (.eff ⟨some 12, none, .call N.debuggerkit_Mod [.tmp 11, .val (.t (.int .i64 1073741824))]⟩ [⟨some 15, none, .op .load1 [.tmp 14]⟩, ⟨some 18, none, .op .load1 [.tmp 17]⟩]
  (.val ⟨some 13, none, .op (.bin .add) [.val (.t (.int .i64 1)), .tmp 12]⟩
  (.val ⟨some 20, none, .op (.fieldA 1) [.tmp 2]⟩
  (.eff ⟨some 16, none, .call N.debuggerkit_Mod [.tmp 15, .val (.t (.int .i64 1073741824))]⟩ [⟨some 18, none, .op .load1 [.tmp 17]⟩]
  (.eff ⟨some 19, none, .call N.debuggerkit_Mod [.tmp 18, .val (.t (.int .i64 1073741824))]⟩ []
  (.eff ⟨none, none, .op (.store 1) [.tmp 20, .tmp 13]⟩ []
  (.val ⟨some 21, none, .op (.fieldA 2) [.tmp 2]⟩
  (.eff ⟨none, none, .op (.store 1) [.tmp 21, .tmp 16]⟩ []
  (.val ⟨some 22, none, .op (.fieldA 4) [.tmp 2]⟩
  (.eff ⟨none, none, .op (.store 1) [.tmp 22, .tmp 19]⟩ []
  .fin))))))))))))))))
abbrev debuggerlaw33_near.r2 : List Ins := [⟨some 23, none, .op (.fieldA 0) [.tmp 2]⟩,
  ⟨some 24, none, .op .load1 [.tmp 23]⟩,
  ⟨some 25, none, .op (.bin .eql) [.tmp 24, .val (.t (.int .i64 2))]⟩]
abbrev debuggerlaw33_near.r3 : List Ins := [⟨some 26, none, .op (.fieldA 3) [.tmp 2]⟩,
  ⟨some 27, none, .op .load1 [.tmp 26]⟩,
  ⟨some 28, none, .call N.debuggerkit_Mod [.tmp 27, .val (.t (.int .i64 1073741824))]⟩,
  ⟨some 29, none, .op (.bin .add) [.val (.t (.int .i64 1)), .tmp 28]⟩,
  ⟨some 30, none, .op (.fieldA 3) [.tmp 2]⟩,
  ⟨none, none, .op (.store 1) [.tmp 30, .tmp 29]⟩]
abbrev debuggerlaw33_near.r4 : List Ins := [⟨some 31, none, .op (.fieldA 3) [.tmp 2]⟩,
  ⟨none, none, .op (.store 1) [.tmp 31, .val (.t (.int .i64 0))]⟩,
  ⟨some 32, none, .op (.fieldA 5) [.tmp 2]⟩,
  ⟨none, none, .op (.store 1) [.tmp 32, .val (.t (.lst 0 true []))]⟩]
abbrev debuggerlaw33_near.r5 : List Ins := [⟨some 33, none, .op .id [.tmp 1]⟩,
  ⟨some 34, none, .call N.debuggerkit_Mod [.tmp 33, .val (.t (.int .i64 12))]⟩]
abbrev debuggerlaw33_near.r6 : List Ins := [⟨some 36, none, .op (.bin .eql) [.tmp 34, .val (.t (.int .i64 0))]⟩,
  ⟨some 35, none, .op .id [.tmp 36]⟩]
abbrev debuggerlaw33_near.r7 : List Ins := [⟨some 37, none, .op (.fieldA 3) [.tmp 2]⟩,
  ⟨none, none, .op (.store 1) [.tmp 37, .val (.t (.int .i64 0))]⟩]
abbrev debuggerlaw33_near.r8 : List Ins := [⟨some 39, none, .op (.bin .eql) [.tmp 34, .val (.t (.int .i64 1))]⟩,
  ⟨some 38, none, .op .id [.tmp 39]⟩]
abbrev debuggerlaw33_near.r9 : List Ins := [⟨some 40, none, .op (.fieldA 1) [.tmp 2]⟩,
  ⟨none, none, .op (.store 1) [.tmp 40, .val (.t (.int .i64 0))]⟩]
abbrev debuggerlaw33_near.r10 : List Ins := [⟨some 42, none, .op (.bin .eql) [.tmp 34, .val (.t (.int .i64 2))]⟩,
  ⟨some 41, none, .op .id [.tmp 42]⟩]
abbrev debuggerlaw33_near.r11 : List Ins := [⟨some 43, none, .op (.fieldA 2) [.tmp 2]⟩,
  ⟨none, none, .op (.store 1) [.tmp 43, .val (.t (.int .i64 1073741825))]⟩]
abbrev debuggerlaw33_near.r12 : List Ins := [⟨some 45, none, .op (.bin .eql) [.tmp 34, .val (.t (.int .i64 3))]⟩,
  ⟨some 44, none, .op .id [.tmp 45]⟩]
abbrev debuggerlaw33_near.r13 : List Ins := [⟨some 46, none, .op (.buildSlice 1 (.int .u8 0) 1 [0]) [.val (.t (.int .u8 1))]⟩,
  ⟨some 47, none, .op (.fieldA 5) [.tmp 2]⟩,
  ⟨none, none, .op (.store 1) [.tmp 47, .tmp 46]⟩]
abbrev debuggerlaw33_near.r14 : List Ins := [⟨some 48, none, .op (.loadN 6) [.tmp 2]⟩,
  ⟨none, none, .op (.store 6) [.tmp 4, .tmp 48]⟩]
abbrev debuggerlaw33_near.body : Cd := (.seq (.rgn debuggerlaw33_near.r0) (.seq (.rgn debuggerlaw33_near.r1) (.seq (.rgnD debuggerlaw33_near.d0) (.seq (.seq (.rgn debuggerlaw33_near.r2) (.cond (.tmp 25) (.rgn debuggerlaw33_near.r3) (.rgn debuggerlaw33_near.r4))) (.seq (.seq (.rgn debuggerlaw33_near.r5) (.block 0 (.seq (.rgn debuggerlaw33_near.r6) (.cond (.tmp 35) (.rgn debuggerlaw33_near.r7) (.seq (.rgn debuggerlaw33_near.r8) (.cond (.tmp 38) (.rgn debuggerlaw33_near.r9) (.seq (.rgn debuggerlaw33_near.r10) (.cond (.tmp 41) (.rgn debuggerlaw33_near.r11) (.seq (.rgn debuggerlaw33_near.r12) (.cond (.tmp 44) (.rgn debuggerlaw33_near.r13) .skip)))))))))) (.seq (.rgn debuggerlaw33_near.r14) .ret))))))
def debuggerlaw33_near.af : AF := ⟨2, 49, [.cell 4 6 false], debuggerlaw33_near.body⟩
theorem debuggerlaw33_near.ok : cFunc PP [] Try.f38 = some debuggerlaw33_near.af := by kernel_rfl
theorem debuggerlaw33_near.intro {args : List V} {H : Heap} {Q : V → Heap → Prop} (hlen : args.length ≤ 49) (h : wpC (SCall PP) H.length debuggerlaw33_near.body (exitK H.length [.cell 4 6 false] Q) ⟨initVs 0 args, H⟩) : SCall PP N.debuggerlaw33_near args H Q :=
  SCall.intro Try.func38 (by kernel_rfl) debuggerlaw33_near.ok hlen h
end Go.Proofs.Ytljjabccgbakgaa
