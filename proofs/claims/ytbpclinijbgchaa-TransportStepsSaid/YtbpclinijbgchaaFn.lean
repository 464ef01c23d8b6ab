/- The numbers of the functions of this seat. Written by a program of the session. -/
import Derived.Test.YtbpclinijbgchaaRows
import Derived.Test.YtbpclinijbgchaaL2
namespace Go.Proofs.Ytbpclinijbgchaa
open Go Go.Abs
noncomputable abbrev PP : Program := Try.prog
abbrev N.debuggerlaw35_TransportSteps : FuncId := 3
abbrev N.debuggerlaw35_TransportPushes : FuncId := 4
abbrev N.debuggerlaw35_TransportDelivers : FuncId := 5
abbrev N.debuggerlaw35_TransportRestarts : FuncId := 6
abbrev N.debuggerlaw35_TransportSilent : FuncId := 7
abbrev N.debuggerlaw35_TransportWindow : FuncId := 8
abbrev N.debuggerlaw35_large : FuncId := 9
abbrev N.debuggerlaw35_awake : FuncId := 10
abbrev N.debuggerlaw35_right : FuncId := 11
abbrev N.debuggerkit_Mod : FuncId := 12
abbrev N.transport_Poll : FuncId := 13
abbrev N.debuggerref35_Poll : FuncId := 14
abbrev N.debuggerlaw35_same : FuncId := 15
abbrev N.debuggerref34_Bodies : FuncId := 16
abbrev N.debuggerref33_Encode : FuncId := 17
abbrev N.transport_Receive : FuncId := 18
abbrev N.debuggerref35_Receive : FuncId := 19
abbrev N.transport_New : FuncId := 20
abbrev N.debuggerref35_New : FuncId := 21
abbrev N.transport_Push : FuncId := 22
abbrev N.debuggerref35_Push : FuncId := 23
abbrev N.debuggerstop_Fates : FuncId := 24
abbrev N.debuggerlaw35_exchange : FuncId := 25
abbrev N.transport_clone : FuncId := 26
abbrev N.transport_Poll_1 : FuncId := 27
abbrev N.packet_Encode : FuncId := 28
abbrev N.debuggerref35_send : FuncId := 29
abbrev N.debuggerref35_Same : FuncId := 30
abbrev N.debuggerref33_Right : FuncId := 31
abbrev N.debuggerref01_AppendUint : FuncId := 32
abbrev N.debuggerref33_Sum : FuncId := 33
abbrev N.packet_Decode : FuncId := 34
abbrev N.debuggerref33_Decode : FuncId := 35
abbrev N.debuggerref34_Send : FuncId := 36
abbrev N.debuggerref34_FateOf : FuncId := 37
abbrev N.debuggerref34_Arrive : FuncId := 38
abbrev N.packet_Right : FuncId := 39
abbrev N.wire_AppendUint : FuncId := 40
abbrev N.packet_Sum : FuncId := 41
abbrev N.debuggerref01_group : FuncId := 42
abbrev N.packet_read : FuncId := 43
abbrev N.debuggerref01_Uint : FuncId := 44
abbrev N.debuggerref34_damaged : FuncId := 45
abbrev N.packet_number : FuncId := 46
abbrev N.wire_appendGroups : FuncId := 47
abbrev N.wire_Uint : FuncId := 48
abbrev N.debuggerref01_number : FuncId := 49
abbrev N.wire_groups : FuncId := 50
abbrev N.wire_Uint_1 : FuncId := 51
end Go.Proofs.Ytbpclinijbgchaa
