/- The functions of package debuggerref25 as the code of the abstract machine. Written by a program of the session. -/
import Derived.Test.YtljjabccgbakgaaFn
namespace Go.Proofs.Ytljjabccgbakgaa
open Go Go.Abs
set_option maxRecDepth 100000
/-! ### debugger/debuggerref25.Ints -/
abbrev debuggerref25_Ints.r0 : List Ins := [⟨some 4, none, .op .id [.val (.t (.bool false))]⟩]
abbrev debuggerref25_Ints.r1 : List Ins := [⟨some 6, none, .op .id [.tmp 0]⟩,
  ⟨some 7, none, .op .len [.tmp 6]⟩,
  ⟨some 8, none, .op .id [.tmp 1]⟩,
  ⟨some 9, none, .op .len [.tmp 8]⟩,
  ⟨some 10, none, .op (.bin .neq) [.tmp 7, .tmp 9]⟩]
abbrev debuggerref25_Ints.r2 : List Ins := [⟨some 4, none, .op .id [.val (.t (.bool false))]⟩]
abbrev debuggerref25_Ints.r3 : List Ins := [⟨some 5, none, .op .id [.val (.t (.int .i64 0))]⟩]
abbrev debuggerref25_Ints.r4 : List Ins := [⟨some 11, none, .op .id [.tmp 5]⟩,
  ⟨some 12, none, .op .id [.tmp 0]⟩,
  ⟨some 13, none, .op .len [.tmp 12]⟩,
  ⟨some 14, none, .op (.bin .lss) [.tmp 11, .tmp 13]⟩]
abbrev debuggerref25_Ints.d0 : Plan := (.val ⟨some 17, none, .op .id [.tmp 0]⟩
  (.val ⟨some 18, none, .op .id [.tmp 5]⟩
  (.val ⟨some 19, none, .op (.idxS 1) [.tmp 17, .tmp 18]⟩
  (.val ⟨some 20, none, .op .load1 [.tmp 19]⟩
  (.val ⟨some 21, none, .op .id [.tmp 1]⟩
  (.val ⟨some 22, none, .op .id [.tmp 5]⟩
  (.val ⟨some 23, none, .op (.idxS 1) [.tmp 21, .tmp 22]⟩
  (.val ⟨some 24, none, .op .load1 [.tmp 23]⟩
  (.val ⟨some 25, none, .op (.bin .neq) [.tmp 20, .tmp 24]⟩
  .fin)))))))))
abbrev debuggerref25_Ints.r5 : List Ins := [⟨some 4, none, .op .id [.val (.t (.bool false))]⟩]
abbrev debuggerref25_Ints.r6 : List Ins := [⟨some 15, none, .op .id [.tmp 5]⟩,
  ⟨some 16, none, .op (.bin .add) [.tmp 15, .val (.t (.int .i64 1))]⟩,
  ⟨some 5, none, .op .id [.tmp 16]⟩]
abbrev debuggerref25_Ints.l0 : Cd := (.seq (.seq (.rgn debuggerref25_Ints.r4) (.cond (.tmp 14) .skip (.exit 0))) (.seq (.block 1 (.seq (.rgnD debuggerref25_Ints.d0) (.cond (.tmp 25) (.seq (.rgn debuggerref25_Ints.r5) .ret) .skip))) (.rgn debuggerref25_Ints.r6)))
abbrev debuggerref25_Ints.r7 : List Ins := [⟨some 4, none, .op .id [.val (.t (.bool true))]⟩]
abbrev debuggerref25_Ints.body : Cd := (.seq (.rgn debuggerref25_Ints.r0) (.seq (.seq (.rgn debuggerref25_Ints.r1) (.cond (.tmp 10) (.seq (.rgn debuggerref25_Ints.r2) .ret) .skip)) (.seq (.seq (.rgn debuggerref25_Ints.r3) (.block 0 (.loop debuggerref25_Ints.l0))) (.seq (.rgn debuggerref25_Ints.r7) .ret))))
def debuggerref25_Ints.af : AF := ⟨2, 26, [.tmp 4], debuggerref25_Ints.body⟩
theorem debuggerref25_Ints.ok : cFunc PP [] Try.f67 = some debuggerref25_Ints.af := by kernel_rfl
theorem debuggerref25_Ints.intro {args : List V} {H : Heap} {Q : V → Heap → Prop} (hlen : args.length ≤ 26) (h : wpC (SCall PP) H.length debuggerref25_Ints.body (exitK H.length [.tmp 4] Q) ⟨initVs 0 args, H⟩) : SCall PP N.debuggerref25_Ints args H Q :=
  SCall.intro Try.func67 (by kernel_rfl) debuggerref25_Ints.ok hlen h
end Go.Proofs.Ytljjabccgbakgaa
