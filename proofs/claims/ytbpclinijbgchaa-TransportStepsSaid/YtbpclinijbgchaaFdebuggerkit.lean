/- The functions of package debuggerkit as the code of the abstract machine. Written by a program of the session. -/
import Derived.Test.YtbpclinijbgchaaFn
namespace Go.Proofs.Ytbpclinijbgchaa
open Go Go.Abs
set_option maxRecDepth 100000
/-! ### debugger/debuggerkit.Mod -/
abbrev debuggerkit_Mod.r0 : List Ins := [⟨some 4, none, .op .id [.val (.t (.int .i64 0))]⟩]
abbrev debuggerkit_Mod.r1 : List Ins := [⟨some 5, none, .op .id [.tmp 0]⟩,
  ⟨some 6, none, .op .id [.tmp 1]⟩,
  ⟨some 7, none, .op (.bin .rem) [.tmp 5, .tmp 6]⟩,
  ⟨some 0, none, .op .id [.tmp 7]⟩]
abbrev debuggerkit_Mod.r2 : List Ins := [⟨some 8, none, .op .id [.tmp 0]⟩,
  ⟨some 9, none, .op (.bin .lss) [.tmp 8, .val (.t (.int .i64 0))]⟩]
abbrev debuggerkit_Mod.r3 : List Ins := [⟨some 10, none, .op .id [.tmp 0]⟩,
  ⟨some 11, none, .op .id [.tmp 1]⟩,
  ⟨some 12, none, .op (.bin .add) [.tmp 10, .tmp 11]⟩,
  ⟨some 0, none, .op .id [.tmp 12]⟩]
abbrev debuggerkit_Mod.r4 : List Ins := [⟨some 13, none, .op .id [.tmp 0]⟩,
  ⟨some 4, none, .op .id [.tmp 13]⟩]
abbrev debuggerkit_Mod.body : Cd := (.seq (.rgn debuggerkit_Mod.r0) (.seq (.rgn debuggerkit_Mod.r1) (.seq (.seq (.rgn debuggerkit_Mod.r2) (.cond (.tmp 9) (.rgn debuggerkit_Mod.r3) .skip)) (.seq (.rgn debuggerkit_Mod.r4) .ret))))
def debuggerkit_Mod.af : AF := ⟨2, 14, [.tmp 4], debuggerkit_Mod.body⟩
theorem debuggerkit_Mod.ok : cFunc PP [] Try.f12 = some debuggerkit_Mod.af := by kernel_rfl
theorem debuggerkit_Mod.intro {args : List V} {H : Heap} {Q : V → Heap → Prop} (hlen : args.length ≤ 14) (h : wpC (SCall PP) H.length debuggerkit_Mod.body (exitK H.length [.tmp 4] Q) ⟨initVs 0 args, H⟩) : SCall PP N.debuggerkit_Mod args H Q :=
  SCall.intro Try.func12 (by kernel_rfl) debuggerkit_Mod.ok hlen h
end Go.Proofs.Ytbpclinijbgchaa
