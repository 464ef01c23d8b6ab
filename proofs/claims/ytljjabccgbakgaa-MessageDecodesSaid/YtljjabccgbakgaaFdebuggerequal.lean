/- The functions of package debuggerequal as the code of the abstract machine. Written by a program of the session. -/
import Derived.Test.YtljjabccgbakgaaFn
namespace Go.Proofs.Ytljjabccgbakgaa
open Go Go.Abs
set_option maxRecDepth 100000
/-! ### debugger/debuggerequal.SameCommand -/
abbrev debuggerequal_SameCommand.r0 : List Ins := [⟨some 2, none, .op .box [.tmp 0]⟩,
  ⟨some 3, none, .op .box [.tmp 1]⟩,
  ⟨some 4, none, .op .id [.val (.t (.bool false))]⟩]
abbrev debuggerequal_SameCommand.r1 : List Ins := [⟨some 5, none, .op (.fieldA 0) [.tmp 2]⟩,
  ⟨some 6, none, .op .load1 [.tmp 5]⟩,
  ⟨some 7, none, .op (.fieldA 0) [.tmp 3]⟩,
  ⟨some 8, none, .op .load1 [.tmp 7]⟩,
  ⟨some 9, none, .op (.bin .eql) [.tmp 6, .tmp 8]⟩,
  ⟨some 10, none, .op .id [.tmp 9]⟩,
  ⟨some 11, some (10, true), .op (.fieldA 1) [.tmp 2]⟩,
  ⟨some 12, some (10, true), .op .load1 [.tmp 11]⟩,
  ⟨some 13, some (10, true), .op (.fieldA 1) [.tmp 3]⟩,
  ⟨some 14, some (10, true), .op .load1 [.tmp 13]⟩,
  ⟨some 15, some (10, true), .op (.bin .eql) [.tmp 12, .tmp 14]⟩,
  ⟨some 16, none, .op .pick [.tmp 10, .tmp 15, .val (.t (.bool false))]⟩,
  ⟨some 17, none, .op .id [.tmp 16]⟩,
  ⟨some 18, some (17, true), .op (.fieldA 2) [.tmp 2]⟩,
  ⟨some 19, some (17, true), .op .load1 [.tmp 18]⟩,
  ⟨some 20, some (17, true), .op (.fieldA 2) [.tmp 3]⟩,
  ⟨some 21, some (17, true), .op .load1 [.tmp 20]⟩,
  ⟨some 22, some (17, true), .op (.bin .eql) [.tmp 19, .tmp 21]⟩,
  ⟨some 23, none, .op .pick [.tmp 17, .tmp 22, .val (.t (.bool false))]⟩,
  ⟨some 24, none, .op .id [.tmp 23]⟩,
  ⟨some 25, some (24, true), .op (.fieldA 3) [.tmp 2]⟩,
  ⟨some 26, some (24, true), .op .load1 [.tmp 25]⟩,
  ⟨some 27, some (24, true), .op (.fieldA 3) [.tmp 3]⟩,
  ⟨some 28, some (24, true), .op .load1 [.tmp 27]⟩,
  ⟨some 29, some (24, true), .op (.bin .eql) [.tmp 26, .tmp 28]⟩,
  ⟨some 30, none, .op .pick [.tmp 24, .tmp 29, .val (.t (.bool false))]⟩,
  ⟨some 31, none, .op .id [.tmp 30]⟩,
  ⟨some 32, some (31, true), .op (.fieldA 4) [.tmp 2]⟩,
  ⟨some 33, some (31, true), .op .load1 [.tmp 32]⟩,
  ⟨some 34, some (31, true), .op (.fieldA 4) [.tmp 3]⟩,
  ⟨some 35, some (31, true), .op .load1 [.tmp 34]⟩,
  ⟨some 36, some (31, true), .call N.debuggerref25_Ints [.tmp 33, .tmp 35]⟩,
  ⟨some 37, none, .op .pick [.tmp 31, .tmp 36, .val (.t (.bool false))]⟩,
  ⟨some 4, none, .op .id [.tmp 37]⟩]
abbrev debuggerequal_SameCommand.body : Cd := (.seq (.rgn debuggerequal_SameCommand.r0) (.seq (.rgn debuggerequal_SameCommand.r1) .ret))
def debuggerequal_SameCommand.af : AF := ⟨2, 38, [.tmp 4], debuggerequal_SameCommand.body⟩
theorem debuggerequal_SameCommand.ok : cFunc PP [] Try.f37 = some debuggerequal_SameCommand.af := by kernel_rfl
theorem debuggerequal_SameCommand.intro {args : List V} {H : Heap} {Q : V → Heap → Prop} (hlen : args.length ≤ 38) (h : wpC (SCall PP) H.length debuggerequal_SameCommand.body (exitK H.length [.tmp 4] Q) ⟨initVs 0 args, H⟩) : SCall PP N.debuggerequal_SameCommand args H Q :=
  SCall.intro Try.func37 (by kernel_rfl) debuggerequal_SameCommand.ok hlen h
/-! ### debugger/debuggerequal.SameReply -/
abbrev debuggerequal_SameReply.r0 : List Ins := [⟨some 2, none, .op .box [.tmp 0]⟩,
  ⟨some 3, none, .op .box [.tmp 1]⟩,
  ⟨some 4, none, .op .id [.val (.t (.bool false))]⟩]
abbrev debuggerequal_SameReply.r1 : List Ins := [⟨some 5, none, .op (.fieldA 0) [.tmp 2]⟩,
  ⟨some 6, none, .op .load1 [.tmp 5]⟩,
  ⟨some 7, none, .op (.fieldA 0) [.tmp 3]⟩,
  ⟨some 8, none, .op .load1 [.tmp 7]⟩,
  ⟨some 9, none, .op (.bin .eql) [.tmp 6, .tmp 8]⟩,
  ⟨some 10, none, .op .id [.tmp 9]⟩,
  ⟨some 11, some (10, true), .op (.fieldA 4) [.tmp 2]⟩,
  ⟨some 12, some (10, true), .op (.loadN 7) [.tmp 11]⟩,
  ⟨some 13, some (10, true), .op (.fieldA 4) [.tmp 3]⟩,
  ⟨some 14, some (10, true), .op (.loadN 7) [.tmp 13]⟩,
  ⟨some 15, some (10, true), .op (.aggEq false [.int .i64, .int .i64, .int .i64, .int .i64, .int .i64, .int .i64, .int .i64]) [.tmp 12, .tmp 14]⟩,
  ⟨some 16, none, .op .pick [.tmp 10, .tmp 15, .val (.t (.bool false))]⟩,
  ⟨some 17, none, .op .id [.tmp 16]⟩,
  ⟨some 18, some (17, true), .op (.fieldA 1) [.tmp 2]⟩,
  ⟨some 19, some (17, true), .op .load1 [.tmp 18]⟩,
  ⟨some 20, some (17, true), .op (.fieldA 1) [.tmp 3]⟩,
  ⟨some 21, some (17, true), .op .load1 [.tmp 20]⟩,
  ⟨some 22, some (17, true), .call N.debuggerref25_Ints [.tmp 19, .tmp 21]⟩,
  ⟨some 23, none, .op .pick [.tmp 17, .tmp 22, .val (.t (.bool false))]⟩,
  ⟨some 24, none, .op .id [.tmp 23]⟩,
  ⟨some 25, some (24, true), .op (.fieldA 2) [.tmp 2]⟩,
  ⟨some 26, some (24, true), .op .load1 [.tmp 25]⟩,
  ⟨some 27, some (24, true), .op (.fieldA 2) [.tmp 3]⟩,
  ⟨some 28, some (24, true), .op .load1 [.tmp 27]⟩,
  ⟨some 29, some (24, true), .call N.debuggerequal_SameThreads [.tmp 26, .tmp 28]⟩,
  ⟨some 30, none, .op .pick [.tmp 24, .tmp 29, .val (.t (.bool false))]⟩,
  ⟨some 31, none, .op .id [.tmp 30]⟩,
  ⟨some 32, some (31, true), .op (.fieldA 3) [.tmp 2]⟩,
  ⟨some 33, some (31, true), .op .load1 [.tmp 32]⟩,
  ⟨some 34, some (31, true), .op (.fieldA 3) [.tmp 3]⟩,
  ⟨some 35, some (31, true), .op .load1 [.tmp 34]⟩,
  ⟨some 36, some (31, true), .call N.debuggerequal_SameOutput [.tmp 33, .tmp 35]⟩,
  ⟨some 37, none, .op .pick [.tmp 31, .tmp 36, .val (.t (.bool false))]⟩,
  ⟨some 4, none, .op .id [.tmp 37]⟩]
abbrev debuggerequal_SameReply.body : Cd := (.seq (.rgn debuggerequal_SameReply.r0) (.seq (.rgn debuggerequal_SameReply.r1) .ret))
def debuggerequal_SameReply.af : AF := ⟨2, 38, [.tmp 4], debuggerequal_SameReply.body⟩
theorem debuggerequal_SameReply.ok : cFunc PP [] Try.f53 = some debuggerequal_SameReply.af := by kernel_rfl
theorem debuggerequal_SameReply.intro {args : List V} {H : Heap} {Q : V → Heap → Prop} (hlen : args.length ≤ 38) (h : wpC (SCall PP) H.length debuggerequal_SameReply.body (exitK H.length [.tmp 4] Q) ⟨initVs 0 args, H⟩) : SCall PP N.debuggerequal_SameReply args H Q :=
  SCall.intro Try.func53 (by kernel_rfl) debuggerequal_SameReply.ok hlen h
/-! ### debugger/debuggerequal.SameThreads -/
abbrev debuggerequal_SameThreads.r0 : List Ins := [⟨some 4, none, .op .id [.val (.t (.bool false))]⟩]
abbrev debuggerequal_SameThreads.r1 : List Ins := [⟨some 6, none, .op .id [.tmp 0]⟩,
  ⟨some 7, none, .op .len [.tmp 6]⟩,
  ⟨some 8, none, .op .id [.tmp 1]⟩,
  ⟨some 9, none, .op .len [.tmp 8]⟩,
  ⟨some 10, none, .op (.bin .neq) [.tmp 7, .tmp 9]⟩]
abbrev debuggerequal_SameThreads.r2 : List Ins := [⟨some 4, none, .op .id [.val (.t (.bool false))]⟩]
abbrev debuggerequal_SameThreads.r3 : List Ins := [⟨some 5, none, .op .id [.val (.t (.int .i64 0))]⟩]
abbrev debuggerequal_SameThreads.r4 : List Ins := [⟨some 11, none, .op .id [.tmp 5]⟩,
  ⟨some 12, none, .op .id [.tmp 0]⟩,
  ⟨some 13, none, .op .len [.tmp 12]⟩,
  ⟨some 14, none, .op (.bin .lss) [.tmp 11, .tmp 13]⟩]
abbrev debuggerequal_SameThreads.d0 : Plan := (.val ⟨some 17, none, .op .id [.tmp 0]⟩
  (.val ⟨some 18, none, .op .id [.tmp 5]⟩
  (.val ⟨some 19, none, .op (.idxS 20) [.tmp 17, .tmp 18]⟩
  (.val ⟨some 20, none, .op (.fieldA 0) [.tmp 19]⟩
  (.val ⟨some 21, none, .op .load1 [.tmp 20]⟩
  (.val ⟨some 22, none, .op .id [.tmp 1]⟩
  (.val ⟨some 23, none, .op .id [.tmp 5]⟩
  (.val ⟨some 24, none, .op (.idxS 20) [.tmp 22, .tmp 23]⟩
  (.val ⟨some 25, none, .op (.fieldA 0) [.tmp 24]⟩
  (.val ⟨some 26, none, .op .load1 [.tmp 25]⟩
  (.val ⟨some 27, none, .op (.bin .neq) [.tmp 21, .tmp 26]⟩
  (.val ⟨some 28, none, .op .id [.tmp 27]⟩
  (.val ⟨some 29, some (28, false), .op .id [.tmp 0]⟩
  (.val ⟨some 30, some (28, false), .op .id [.tmp 5]⟩
  (.val ⟨some 31, some (28, false), .op (.idxS 20) [.tmp 29, .tmp 30]⟩
  (.val ⟨some 32, some (28, false), .op (.fieldA 18) [.tmp 31]⟩
  (.val ⟨some 33, some (28, false), .op .load1 [.tmp 32]⟩
  (.val ⟨some 34, some (28, false), .op .id [.tmp 1]⟩
  (.val ⟨some 35, some (28, false), .op .id [.tmp 5]⟩
  (.val ⟨some 36, some (28, false), .op (.idxS 20) [.tmp 34, .tmp 35]⟩
  (.val ⟨some 37, some (28, false), .op (.fieldA 18) [.tmp 36]⟩
  (.val ⟨some 38, some (28, false), .op .load1 [.tmp 37]⟩
  (.val ⟨some 39, some (28, false), .op (.bin .neq) [.tmp 33, .tmp 38]⟩
  (.val ⟨some 40, none, .op .pick [.tmp 28, .val (.t (.bool true)), .tmp 39]⟩
  (.val ⟨some 41, none, .op .id [.tmp 40]⟩
  (.val ⟨some 42, some (41, false), .op .id [.tmp 0]⟩
  (.val ⟨some 43, some (41, false), .op .id [.tmp 5]⟩
  (.val ⟨some 44, some (41, false), .op (.idxS 20) [.tmp 42, .tmp 43]⟩
  (.val ⟨some 45, some (41, false), .op (.fieldA 1) [.tmp 44]⟩
  (.val ⟨some 46, some (41, false), .op (.loadN 17) [.tmp 45]⟩
  (.val ⟨some 47, some (41, false), .op .id [.tmp 1]⟩
  (.val ⟨some 48, some (41, false), .op .id [.tmp 5]⟩
  (.val ⟨some 49, some (41, false), .op (.idxS 20) [.tmp 47, .tmp 48]⟩
  (.val ⟨some 50, some (41, false), .op (.fieldA 1) [.tmp 49]⟩
  (.val ⟨some 51, some (41, false), .op (.loadN 17) [.tmp 50]⟩
  (.val ⟨some 52, some (41, false), .op (.aggEq true [.int .i64, .int .i64, .int .i64, .int .i64, .int .i64, .int .i64, .int .i64, .int .i64, .int .i64, .int .i64, .int .i64, .int .i64, .int .i64, .int .i64, .int .i64, .int .i64, .int .i64]) [.tmp 46, .tmp 51]⟩
  (.val ⟨some 53, none, .op .pick [.tmp 41, .val (.t (.bool true)), .tmp 52]⟩
  (.val ⟨some 54, none, .op .id [.tmp 53]⟩
  (.val ⟨some 55, some (54, false), .op .id [.tmp 0]⟩
  (.val ⟨some 56, some (54, false), .op .id [.tmp 5]⟩
  (.val ⟨some 57, some (54, false), .op (.idxS 20) [.tmp 55, .tmp 56]⟩
  (.val ⟨some 58, some (54, false), .op (.fieldA 19) [.tmp 57]⟩
  (.val ⟨some 59, some (54, false), .op .load1 [.tmp 58]⟩
  (.val ⟨some 60, some (54, false), .op .id [.tmp 1]⟩
  (.val ⟨some 61, some (54, false), .op .id [.tmp 5]⟩
  (.val ⟨some 62, some (54, false), .op (.idxS 20) [.tmp 60, .tmp 61]⟩
  (.val ⟨some 63, some (54, false), .op (.fieldA 19) [.tmp 62]⟩
  (.val ⟨some 64, some (54, false), .op .load1 [.tmp 63]⟩
  (.eff ⟨some 65, some (54, false), .call N.debuggerref25_Ints [.tmp 59, .tmp 64]⟩ []
  (.val ⟨some 66, some (54, false), .op (.un .not) [.tmp 65]⟩
  (.val ⟨some 67, none, .op .pick [.tmp 54, .val (.t (.bool true)), .tmp 66]⟩
  .fin)))))))))))))))))))))))))))))))))))))))))))))))))))
abbrev debuggerequal_SameThreads.r5 : List Ins := [⟨some 4, none, .op .id [.val (.t (.bool false))]⟩]
abbrev debuggerequal_SameThreads.r6 : List Ins := [⟨some 15, none, .op .id [.tmp 5]⟩,
  ⟨some 16, none, .op (.bin .add) [.tmp 15, .val (.t (.int .i64 1))]⟩,
  ⟨some 5, none, .op .id [.tmp 16]⟩]
abbrev debuggerequal_SameThreads.l0 : Cd := (.seq (.seq (.rgn debuggerequal_SameThreads.r4) (.cond (.tmp 14) .skip (.exit 0))) (.seq (.block 1 (.seq (.rgnD debuggerequal_SameThreads.d0) (.cond (.tmp 67) (.seq (.rgn debuggerequal_SameThreads.r5) .ret) .skip))) (.rgn debuggerequal_SameThreads.r6)))
abbrev debuggerequal_SameThreads.r7 : List Ins := [⟨some 4, none, .op .id [.val (.t (.bool true))]⟩]
abbrev debuggerequal_SameThreads.body : Cd := (.seq (.rgn debuggerequal_SameThreads.r0) (.seq (.seq (.rgn debuggerequal_SameThreads.r1) (.cond (.tmp 10) (.seq (.rgn debuggerequal_SameThreads.r2) .ret) .skip)) (.seq (.seq (.rgn debuggerequal_SameThreads.r3) (.block 0 (.loop debuggerequal_SameThreads.l0))) (.seq (.rgn debuggerequal_SameThreads.r7) .ret))))
def debuggerequal_SameThreads.af : AF := ⟨2, 68, [.tmp 4], debuggerequal_SameThreads.body⟩
theorem debuggerequal_SameThreads.ok : cFunc PP [] Try.f80 = some debuggerequal_SameThreads.af := by kernel_rfl
theorem debuggerequal_SameThreads.intro {args : List V} {H : Heap} {Q : V → Heap → Prop} (hlen : args.length ≤ 68) (h : wpC (SCall PP) H.length debuggerequal_SameThreads.body (exitK H.length [.tmp 4] Q) ⟨initVs 0 args, H⟩) : SCall PP N.debuggerequal_SameThreads args H Q :=
  SCall.intro Try.func80 (by kernel_rfl) debuggerequal_SameThreads.ok hlen h
/-! ### debugger/debuggerequal.SameOutput -/
abbrev debuggerequal_SameOutput.r0 : List Ins := [⟨some 4, none, .op .id [.val (.t (.bool false))]⟩]
abbrev debuggerequal_SameOutput.r1 : List Ins := [⟨some 6, none, .op .id [.tmp 0]⟩,
  ⟨some 7, none, .op .len [.tmp 6]⟩,
  ⟨some 8, none, .op .id [.tmp 1]⟩,
  ⟨some 9, none, .op .len [.tmp 8]⟩,
  ⟨some 10, none, .op (.bin .neq) [.tmp 7, .tmp 9]⟩]
abbrev debuggerequal_SameOutput.r2 : List Ins := [⟨some 4, none, .op .id [.val (.t (.bool false))]⟩]
abbrev debuggerequal_SameOutput.r3 : List Ins := [⟨some 5, none, .op .id [.val (.t (.int .i64 0))]⟩]
abbrev debuggerequal_SameOutput.r4 : List Ins := [⟨some 11, none, .op .id [.tmp 5]⟩,
  ⟨some 12, none, .op .id [.tmp 0]⟩,
  ⟨some 13, none, .op .len [.tmp 12]⟩,
  ⟨some 14, none, .op (.bin .lss) [.tmp 11, .tmp 13]⟩]
abbrev debuggerequal_SameOutput.d0 : Plan := (.val ⟨some 17, none, .op .id [.tmp 0]⟩
  (.val ⟨some 18, none, .op .id [.tmp 5]⟩
  (.val ⟨some 19, none, .op (.idxS 2) [.tmp 17, .tmp 18]⟩
  (.val ⟨some 20, none, .op (.loadN 2) [.tmp 19]⟩
  (.val ⟨some 21, none, .op .id [.tmp 1]⟩
  (.val ⟨some 22, none, .op .id [.tmp 5]⟩
  (.val ⟨some 23, none, .op (.idxS 2) [.tmp 21, .tmp 22]⟩
  (.val ⟨some 24, none, .op (.loadN 2) [.tmp 23]⟩
  (.val ⟨some 25, none, .op (.aggEq true [.int .i64, .int .i64]) [.tmp 20, .tmp 24]⟩
  .fin)))))))))
abbrev debuggerequal_SameOutput.r5 : List Ins := [⟨some 4, none, .op .id [.val (.t (.bool false))]⟩]
abbrev debuggerequal_SameOutput.r6 : List Ins := [⟨some 15, none, .op .id [.tmp 5]⟩,
  ⟨some 16, none, .op (.bin .add) [.tmp 15, .val (.t (.int .i64 1))]⟩,
  ⟨some 5, none, .op .id [.tmp 16]⟩]
abbrev debuggerequal_SameOutput.l0 : Cd := (.seq (.seq (.rgn debuggerequal_SameOutput.r4) (.cond (.tmp 14) .skip (.exit 0))) (.seq (.block 1 (.seq (.rgnD debuggerequal_SameOutput.d0) (.cond (.tmp 25) (.seq (.rgn debuggerequal_SameOutput.r5) .ret) .skip))) (.rgn debuggerequal_SameOutput.r6)))
abbrev debuggerequal_SameOutput.r7 : List Ins := [⟨some 4, none, .op .id [.val (.t (.bool true))]⟩]
abbrev debuggerequal_SameOutput.body : Cd := (.seq (.rgn debuggerequal_SameOutput.r0) (.seq (.seq (.rgn debuggerequal_SameOutput.r1) (.cond (.tmp 10) (.seq (.rgn debuggerequal_SameOutput.r2) .ret) .skip)) (.seq (.seq (.rgn debuggerequal_SameOutput.r3) (.block 0 (.loop debuggerequal_SameOutput.l0))) (.seq (.rgn debuggerequal_SameOutput.r7) .ret))))
def debuggerequal_SameOutput.af : AF := ⟨2, 26, [.tmp 4], debuggerequal_SameOutput.body⟩
theorem debuggerequal_SameOutput.ok : cFunc PP [] Try.f81 = some debuggerequal_SameOutput.af := by kernel_rfl
theorem debuggerequal_SameOutput.intro {args : List V} {H : Heap} {Q : V → Heap → Prop} (hlen : args.length ≤ 26) (h : wpC (SCall PP) H.length debuggerequal_SameOutput.body (exitK H.length [.tmp 4] Q) ⟨initVs 0 args, H⟩) : SCall PP N.debuggerequal_SameOutput args H Q :=
  SCall.intro Try.func81 (by kernel_rfl) debuggerequal_SameOutput.ok hlen h
end Go.Proofs.Ytljjabccgbakgaa
