/- The functions of package debuggersame as the code of the abstract machine. Written by a program of the session. -/
import Derived.Test.YtljjabccgbakgaaFn
namespace Go.Proofs.Ytljjabccgbakgaa
open Go Go.Abs
set_option maxRecDepth 100000
/-! ### debugger/debuggersame.List[byte] -/
abbrev debuggersame_List_byte.r0 : List Ins := [⟨some 4, none, .op .id [.val (.t (.bool false))]⟩]
abbrev debuggersame_List_byte.r1 : List Ins := [⟨some 6, none, .op .id [.tmp 0]⟩,
  ⟨some 7, none, .op .len [.tmp 6]⟩,
  ⟨some 8, none, .op .id [.tmp 1]⟩,
  ⟨some 9, none, .op .len [.tmp 8]⟩,
  ⟨some 10, none, .op (.bin .neq) [.tmp 7, .tmp 9]⟩]
abbrev debuggersame_List_byte.r2 : List Ins := [⟨some 4, none, .op .id [.val (.t (.bool false))]⟩]
abbrev debuggersame_List_byte.r3 : List Ins := [⟨some 5, none, .op .id [.val (.t (.int .i64 0))]⟩]
abbrev debuggersame_List_byte.r4 : List Ins := [⟨some 11, none, .op .id [.tmp 5]⟩,
  ⟨some 12, none, .op .id [.tmp 0]⟩,
  ⟨some 13, none, .op .len [.tmp 12]⟩,
  ⟨some 14, none, .op (.bin .lss) [.tmp 11, .tmp 13]⟩]
abbrev debuggersame_List_byte.d0 : Plan := (.val ⟨some 17, none, .op .id [.tmp 0]⟩
  (.val ⟨some 18, none, .op .id [.tmp 5]⟩
  (.val ⟨some 19, none, .op (.idxS 1) [.tmp 17, .tmp 18]⟩
  (.val ⟨some 20, none, .op .load1 [.tmp 19]⟩
  (.val ⟨some 21, none, .op .id [.tmp 1]⟩
  (.val ⟨some 22, none, .op .id [.tmp 5]⟩
  (.val ⟨some 23, none, .op (.idxS 1) [.tmp 21, .tmp 22]⟩
  (.val ⟨some 24, none, .op .load1 [.tmp 23]⟩
  (.val ⟨some 25, none, .op (.bin .neq) [.tmp 20, .tmp 24]⟩
  .fin)))))))))
abbrev debuggersame_List_byte.r5 : List Ins := [⟨some 4, none, .op .id [.val (.t (.bool false))]⟩]
abbrev debuggersame_List_byte.r6 : List Ins := [⟨some 15, none, .op .id [.tmp 5]⟩,
  ⟨some 16, none, .op (.bin .add) [.tmp 15, .val (.t (.int .i64 1))]⟩,
  ⟨some 5, none, .op .id [.tmp 16]⟩]
abbrev debuggersame_List_byte.l0 : Cd := (.seq (.seq (.rgn debuggersame_List_byte.r4) (.cond (.tmp 14) .skip (.exit 0))) (.seq (.block 1 (.seq (.rgnD debuggersame_List_byte.d0) (.cond (.tmp 25) (.seq (.rgn debuggersame_List_byte.r5) .ret) .skip))) (.rgn debuggersame_List_byte.r6)))
abbrev debuggersame_List_byte.r7 : List Ins := [⟨some 4, none, .op .id [.val (.t (.bool true))]⟩]
abbrev debuggersame_List_byte.body : Cd := (.seq (.rgn debuggersame_List_byte.r0) (.seq (.seq (.rgn debuggersame_List_byte.r1) (.cond (.tmp 10) (.seq (.rgn debuggersame_List_byte.r2) .ret) .skip)) (.seq (.seq (.rgn debuggersame_List_byte.r3) (.block 0 (.loop debuggersame_List_byte.l0))) (.seq (.rgn debuggersame_List_byte.r7) .ret))))
def debuggersame_List_byte.af : AF := ⟨2, 26, [.tmp 4], debuggersame_List_byte.body⟩
theorem debuggersame_List_byte.ok : cFunc PP [] Try.f18 = some debuggersame_List_byte.af := by kernel_rfl
theorem debuggersame_List_byte.intro {args : List V} {H : Heap} {Q : V → Heap → Prop} (hlen : args.length ≤ 26) (h : wpC (SCall PP) H.length debuggersame_List_byte.body (exitK H.length [.tmp 4] Q) ⟨initVs 0 args, H⟩) : SCall PP N.debuggersame_List_byte args H Q :=
  SCall.intro Try.func18 (by kernel_rfl) debuggersame_List_byte.ok hlen h
end Go.Proofs.Ytljjabccgbakgaa
