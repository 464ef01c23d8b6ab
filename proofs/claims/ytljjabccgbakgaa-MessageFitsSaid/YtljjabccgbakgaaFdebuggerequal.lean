/- The functions of package debuggerequal as the code of the abstract machine. Written by a program of the session. -/
import Derived.Test.YtljjabccgbakgaaFn
namespace Go.Proofs.Ytljjabccgbakgaa
open Go Go.Abs
set_option maxRecDepth 100000
/-! ### debugger/debuggerequal.SameCommand -/
abbrev debuggerequal_SameCommand.r0 : List Ins := [⟨some 2, none, .op .box [.tmp 0]⟩,
  ⟨some 3, none, .op .box [.tmp 1]⟩,
  ⟨some 4, none, .op .id [.val (.t (.bool false))]⟩]
abbrev debuggerequal_SameCommand.r1 : List Ins := [⟨some 5, none, .op (.fieldA 0) [.tmp 2]⟩,
  ⟨some 6, none, .op .load1 [.tmp 5]⟩,
  ⟨some 7, none, .op (.fieldA 0) [.tmp 3]⟩,
  ⟨some 8, none, .op .load1 [.tmp 7]⟩,
  ⟨some 9, none, .op (.bin .eql) [.tmp 6, .tmp 8]⟩,
  ⟨some 10, none, .op .id [.tmp 9]⟩,
  ⟨some 11, some (10, true), .op (.fieldA 1) [.tmp 2]⟩,
  ⟨some 12, some (10, true), .op .load1 [.tmp 11]⟩,
  ⟨some 13, some (10, true), .op (.fieldA 1) [.tmp 3]⟩,
  ⟨some 14, some (10, true), .op .load1 [.tmp 13]⟩,
  ⟨some 15, some (10, true), .op (.bin .eql) [.tmp 12, .tmp 14]⟩,
  ⟨some 16, none, .op .pick [.tmp 10, .tmp 15, .val (.t (.bool false))]⟩,
  ⟨some 17, none, .op .id [.tmp 16]⟩,
  ⟨some 18, some (17, true), .op (.fieldA 2) [.tmp 2]⟩,
  ⟨some 19, some (17, true), .op .load1 [.tmp 18]⟩,
  ⟨some 20, some (17, true), .op (.fieldA 2) [.tmp 3]⟩,
  ⟨some 21, some (17, true), .op .load1 [.tmp 20]⟩,
  ⟨some 22, some (17, true), .op (.bin .eql) [.tmp 19, .tmp 21]⟩,
  ⟨some 23, none, .op .pick [.tmp 17, .tmp 22, .val (.t (.bool false))]⟩,
  ⟨some 24, none, .op .id [.tmp 23]⟩,
  ⟨some 25, some (24, true), .op (.fieldA 3) [.tmp 2]⟩,
  ⟨some 26, some (24, true), .op .load1 [.tmp 25]⟩,
  ⟨some 27, some (24, true), .op (.fieldA 3) [.tmp 3]⟩,
  ⟨some 28, some (24, true), .op .load1 [.tmp 27]⟩,
  ⟨some 29, some (24, true), .op (.bin .eql) [.tmp 26, .tmp 28]⟩,
  ⟨some 30, none, .op .pick [.tmp 24, .tmp 29, .val (.t (.bool false))]⟩,
  ⟨some 31, none, .op .id [.tmp 30]⟩,
  ⟨some 32, some (31, true), .op (.fieldA 4) [.tmp 2]⟩,
  ⟨some 33, some (31, true), .op .load1 [.tmp 32]⟩,
  ⟨some 34, some (31, true), .op (.fieldA 4) [.tmp 3]⟩,
  ⟨some 35, some (31, true), .op .load1 [.tmp 34]⟩,
  ⟨some 36, some (31, true), .call N.debuggerref25_Ints [.tmp 33, .tmp 35]⟩,
  ⟨some 37, none, .op .pick [.tmp 31, .tmp 36, .val (.t (.bool false))]⟩,
  ⟨some 4, none, .op .id [.tmp 37]⟩]
abbrev debuggerequal_SameCommand.body : Cd := (.seq (.rgn debuggerequal_SameCommand.r0) (.seq (.rgn debuggerequal_SameCommand.r1) .ret))
def debuggerequal_SameCommand.af : AF := ⟨2, 38, [.tmp 4], debuggerequal_SameCommand.body⟩
theorem debuggerequal_SameCommand.ok : cFunc PP [] Try.f37 = some debuggerequal_SameCommand.af := by kernel_rfl
theorem debuggerequal_SameCommand.intro {args : List V} {H : Heap} {Q : V → Heap → Prop} (hlen : args.length ≤ 38) (h : wpC (SCall PP) H.length debuggerequal_SameCommand.body (exitK H.length [.tmp 4] Q) ⟨initVs 0 args, H⟩) : SCall PP N.debuggerequal_SameCommand args H Q :=
  SCall.intro Try.func37 (by kernel_rfl) debuggerequal_SameCommand.ok hlen h
end Go.Proofs.Ytljjabccgbakgaa
