/- The functions of package debuggerref34 as the code of the abstract machine. Written by a program of the session. -/
import Derived.Test.YtbpclinijbgchaaFn
namespace Go.Proofs.Ytbpclinijbgchaa
open Go Go.Abs
set_option maxRecDepth 100000
/-! ### debugger/debuggerref34.Bodies -/
abbrev debuggerref34_Bodies.r0 : List Ins := [⟨some 4, none, .op .id [.val (.t (.bool false))]⟩]
abbrev debuggerref34_Bodies.r1 : List Ins := [⟨some 6, none, .op .id [.tmp 0]⟩,
  ⟨some 7, none, .op .len [.tmp 6]⟩,
  ⟨some 8, none, .op .id [.tmp 1]⟩,
  ⟨some 9, none, .op .len [.tmp 8]⟩,
  ⟨some 10, none, .op (.bin .neq) [.tmp 7, .tmp 9]⟩]
abbrev debuggerref34_Bodies.r2 : List Ins := [⟨some 4, none, .op .id [.val (.t (.bool false))]⟩]
abbrev debuggerref34_Bodies.r3 : List Ins := [⟨some 5, none, .op .id [.val (.t (.int .i64 0))]⟩]
abbrev debuggerref34_Bodies.r4 : List Ins := [⟨some 11, none, .op .id [.tmp 5]⟩,
  ⟨some 12, none, .op .id [.tmp 0]⟩,
  ⟨some 13, none, .op .len [.tmp 12]⟩,
  ⟨some 14, none, .op (.bin .lss) [.tmp 11, .tmp 13]⟩]
abbrev debuggerref34_Bodies.d0 : Plan := (.val ⟨some 17, none, .op .id [.tmp 0]⟩
  (.val ⟨some 18, none, .op .id [.tmp 5]⟩
  (.val ⟨some 19, none, .op (.idxS 1) [.tmp 17, .tmp 18]⟩
  (.val ⟨some 20, none, .op .load1 [.tmp 19]⟩
  (.val ⟨some 21, none, .op .toStr [.tmp 20]⟩
  (.val ⟨some 22, none, .op .id [.tmp 1]⟩
  (.val ⟨some 23, none, .op .id [.tmp 5]⟩
  (.val ⟨some 24, none, .op (.idxS 1) [.tmp 22, .tmp 23]⟩
  (.val ⟨some 25, none, .op .load1 [.tmp 24]⟩
  (.val ⟨some 26, none, .op .toStr [.tmp 25]⟩
  (.val ⟨some 27, none, .op (.bin .neq) [.tmp 21, .tmp 26]⟩
  .fin)))))))))))
abbrev debuggerref34_Bodies.r5 : List Ins := [⟨some 4, none, .op .id [.val (.t (.bool false))]⟩]
abbrev debuggerref34_Bodies.r6 : List Ins := [⟨some 15, none, .op .id [.tmp 5]⟩,
  ⟨some 16, none, .op (.bin .add) [.tmp 15, .val (.t (.int .i64 1))]⟩,
  ⟨some 5, none, .op .id [.tmp 16]⟩]
abbrev debuggerref34_Bodies.l0 : Cd := (.seq (.seq (.rgn debuggerref34_Bodies.r4) (.cond (.tmp 14) .skip (.exit 0))) (.seq (.block 1 (.seq (.rgnD debuggerref34_Bodies.d0) (.cond (.tmp 27) (.seq (.rgn debuggerref34_Bodies.r5) .ret) .skip))) (.rgn debuggerref34_Bodies.r6)))
abbrev debuggerref34_Bodies.r7 : List Ins := [⟨some 4, none, .op .id [.val (.t (.bool true))]⟩]
abbrev debuggerref34_Bodies.body : Cd := (.seq (.rgn debuggerref34_Bodies.r0) (.seq (.seq (.rgn debuggerref34_Bodies.r1) (.cond (.tmp 10) (.seq (.rgn debuggerref34_Bodies.r2) .ret) .skip)) (.seq (.seq (.rgn debuggerref34_Bodies.r3) (.block 0 (.loop debuggerref34_Bodies.l0))) (.seq (.rgn debuggerref34_Bodies.r7) .ret))))
def debuggerref34_Bodies.af : AF := ⟨2, 28, [.tmp 4], debuggerref34_Bodies.body⟩
theorem debuggerref34_Bodies.ok : cFunc PP [] Try.f16 = some debuggerref34_Bodies.af := by kernel_rfl
theorem debuggerref34_Bodies.intro {args : List V} {H : Heap} {Q : V → Heap → Prop} (hlen : args.length ≤ 28) (h : wpC (SCall PP) H.length debuggerref34_Bodies.body (exitK H.length [.tmp 4] Q) ⟨initVs 0 args, H⟩) : SCall PP N.debuggerref34_Bodies args H Q :=
  SCall.intro Try.func16 (by kernel_rfl) debuggerref34_Bodies.ok hlen h
/-! ### debugger/debuggerref34.Send -/
/-! ### debugger/debuggerref34.FateOf -/
/-! ### debugger/debuggerref34.Arrive -/
/-! ### debugger/debuggerref34.damaged -/
end Go.Proofs.Ytbpclinijbgchaa
