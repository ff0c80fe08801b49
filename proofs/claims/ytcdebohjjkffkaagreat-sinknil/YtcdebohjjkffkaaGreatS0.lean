/- The functions' compact code, printed by program. -/
import Derived.Test.YtcdebohjjkffkaaGreatRfA
namespace Go.Proofs.YtcdebohjjkffkaaGreat.ts
open Go Go.Rf
@[reducible] def Q (d : Nat) (q : QOp) : AOper := ⟨some d, .q q, none, 0⟩
@[reducible] def E (d : Nat) (q : EOp) : AOper := ⟨some d, .e q, none, 0⟩
@[reducible] def M (d : Nat) (q : MOp) : AOper := ⟨some d, .m q, none, 0⟩
@[reducible] def ci (n : Int) : AOpd := .c (.one (dc (.int .i64 n)))
@[reducible] def cb (b : Bool) : AOpd := .c (.one (dc (.bool b)))
@[reducible] def cs (l : List Nat) : AOpd := .c (.one (dc (.str l)))
def c4 : ACode :=
.seq (
.region [Q 2 (.mov (cb false))]) (
.seq (
.region [Q 3 (.mov (.c (.one (dc (.nilp)))))]) (
.seq (
.region [Q 10 (.build [dc (.nilp), dc (.str []), dc (.bool false), dc (.int .i64 0), dc (.int .i64 0), dc (.int .i64 0)] []),
M 11 (.box 56 6 (.t 10)),
Q 4 (.mov (.t 11))]) (
.seq (
.region [Q 13 (.build [dc (.nilp), dc (.nilp), dc (.nilp), dc (.int .i64 0), dc (.sl [] true), dc (.bool false)] []),
M 14 (.box 65 6 (.t 13)),
E 15 (.callf 21 [(.t 14)]),
Q 12 (.mov (.t 15)),
Q 16 (.extract 0 (.t 12)),
Q 17 (.extract 1 (.t 12)),
Q 5 (.mov (.t 16)),
Q 6 (.mov (.t 17))]) (
.seq (
.region [Q 19 (.mov (.t 4)),
E 20 (.callf 22 [(.t 19)]),
Q 18 (.mov (.t 20)),
Q 21 (.extract 0 (.t 18)),
Q 22 (.extract 1 (.t 18)),
Q 23 (.extract 2 (.t 18)),
Q 7 (.mov (.t 21)),
Q 8 (.mov (.t 22)),
Q 9 (.mov (.t 23))]) (
.seq (
.region [Q 24 (.mov (.t 6)),
Q 25 (.bin .eql .scalar (.t 24) (ci 1)),
Q 26 (.mov (.t 25)),
⟨some 27, .q (.mov (.t 3)), some (26, true), 0⟩,
⟨some 28, .q (.mov (.t 0)), some (26, true), 0⟩,
⟨some 29, .e (.callf 23 [(.t 27), (.t 28)]), some (26, true), 0⟩,
⟨some 30, .q (.len .sl (.t 29)), some (26, true), 0⟩,
⟨some 31, .q (.bin .eql .scalar (.t 30) (ci 0)), some (26, true), 0⟩,
Q 32 (.pick (.t 26) (.t 31) (cb false)),
Q 33 (.mov (.t 32)),
⟨some 34, .q (.mov (.t 4)), some (33, true), 0⟩,
⟨some 35, .q (.mov (.t 0)), some (33, true), 0⟩,
⟨some 36, .e (.callf 23 [(.t 34), (.t 35)]), some (33, true), 0⟩,
⟨some 37, .q (.len .sl (.t 36)), some (33, true), 0⟩,
⟨some 38, .q (.bin .eql .scalar (.t 37) (ci 0)), some (33, true), 0⟩,
Q 39 (.pick (.t 33) (.t 38) (cb false)),
Q 40 (.mov (.t 39)),
⟨some 41, .q (.mov (.t 3)), some (40, true), 0⟩,
⟨some 42, .e (.callf 24 [(.t 41)]), some (40, true), 0⟩,
⟨some 43, .q (.bin .eql .scalar (.t 42) (ci 0)), some (40, true), 0⟩,
Q 44 (.pick (.t 40) (.t 43) (cb false)),
Q 45 (.mov (.t 44)),
⟨some 46, .q (.mov (.t 4)), some (45, true), 0⟩,
⟨some 47, .e (.callf 24 [(.t 46)]), some (45, true), 0⟩,
⟨some 48, .q (.bin .eql .scalar (.t 47) (ci 0)), some (45, true), 0⟩,
Q 49 (.pick (.t 45) (.t 48) (cb false)),
Q 50 (.mov (.t 49)),
⟨some 51, .q (.mov (.t 3)), some (50, true), 0⟩,
⟨some 52, .e (.callf 25 [(.t 51)]), some (50, true), 0⟩,
⟨some 53, .q (.bin .eql .scalar (.t 52) (ci 0)), some (50, true), 0⟩,
Q 54 (.pick (.t 50) (.t 53) (cb false)),
Q 55 (.mov (.t 54)),
⟨some 56, .q (.mov (.t 4)), some (55, true), 0⟩,
⟨some 57, .e (.callf 25 [(.t 56)]), some (55, true), 0⟩,
⟨some 58, .q (.bin .eql .scalar (.t 57) (ci 0)), some (55, true), 0⟩,
Q 59 (.pick (.t 55) (.t 58) (cb false)),
Q 60 (.mov (.t 59)),
⟨some 61, .q (.mov (.t 3)), some (60, true), 0⟩,
⟨some 62, .e (.callf 26 [(.t 61)]), some (60, true), 0⟩,
⟨some 63, .q (.un .not (.t 62)), some (60, true), 0⟩,
Q 64 (.pick (.t 60) (.t 63) (cb false)),
Q 65 (.mov (.t 64)),
⟨some 66, .q (.mov (.t 4)), some (65, true), 0⟩,
⟨some 67, .e (.callf 26 [(.t 66)]), some (65, true), 0⟩,
⟨some 68, .q (.un .not (.t 67)), some (65, true), 0⟩,
Q 69 (.pick (.t 65) (.t 68) (cb false)),
Q 70 (.mov (.t 69)),
⟨some 71, .q (.mov (.t 7)), some (70, true), 0⟩,
⟨some 72, .q (.mov (.t 8)), some (70, true), 0⟩,
⟨some 73, .q (.bin .add .scalar (.t 71) (.t 72)), some (70, true), 0⟩,
⟨some 74, .q (.mov (.t 9)), some (70, true), 0⟩,
⟨some 75, .q (.bin .add .scalar (.t 73) (.t 74)), some (70, true), 0⟩,
⟨some 76, .q (.bin .eql .scalar (.t 75) (ci 0)), some (70, true), 0⟩,
Q 77 (.pick (.t 70) (.t 76) (cb false)),
Q 78 (.mov (.t 77)),
⟨some 79, .e (.callf 27 []), some (78, true), 0⟩,
Q 80 (.pick (.t 78) (.t 79) (cb false)),
Q 2 (.mov (.t 80))]) (
.ret))))))
def a4 : AFunc := ⟨c4, [.tmp 2], true⟩
def c10 : ACode :=
.seq (
.region [M 3 (.box 24 3 (.t 1)),
Q 4 (.mov (ci 0))]) (
.seq (
.seq (
.region [Q 14 (.mov (.t 0)),
Q 15 (.bin .eql .ptr (.t 14) (.c (.one (dc (.nilp)))))]) (
.cond (.t 15) (
.seq (
.region [Q 4 (.mov (ci 13))]) (
.ret)) (
.skip))) (
.seq (
.seq (
.region [Q 16 (.mov (.t 0)),
Q 17 (.load true 3 (.t 3)),
E 18 (.callf 51 [(.t 16), (.t 17)]),
Q 5 (.mov (.t 18))]) (
.seq (
.region [Q 19 (.mov (.t 5)),
Q 20 (.bin .neq .scalar (.t 19) (ci 0))]) (
.cond (.t 20) (
.seq (
.region [Q 21 (.mov (.t 5)),
Q 4 (.mov (.t 21))]) (
.ret)) (
.skip)))) (
.seq (
.draw [⟨0, ⟨some 22, .q (.mov (.t 0)), none, 0⟩⟩,
⟨2, ⟨some 24, .q (.faddr 1 (.t 3)), none, 0⟩⟩,
⟨3, ⟨some 25, .q (.load false 1 (.t 24)), none, 4⟩⟩,
⟨4, ⟨some 26, .m (.mkmap (.strs 2)), none, 0⟩⟩,
⟨1, ⟨some 23, .e (.callf 19 [(.t 22)]), none, 1⟩⟩,
⟨5, ⟨some 27, .q (.build [dc (.nilp), dc (.int .i64 0), dc (.nilm)] [(0, 1, (.t 23)), (1, 1, (.t 25)), (2, 1, (.t 26))]), none, 31⟩⟩,
⟨6, ⟨some 28, .m (.box 114 3 (.t 27)), none, 63⟩⟩,
⟨7, ⟨some 6, .q (.mov (.t 28)), none, 127⟩⟩]) (
.seq (
.seq (
.region [Q 29 (.faddr 2 (.t 3)),
Q 30 (.load false 1 (.t 29)),
Q 31 (.len .sl (.t 30)),
Q 32 (.mov (ci 0))]) (
.block 0 (
.loop (
.seq (
.region [Q 33 (.bin .lss .scalar (.t 32) (.t 31))]) (
.seq (
.cond (.t 33) (
.skip) (
.exit 0)) (
.seq (
.block 1 (
.seq (
.region [Q 34 (.iaddr 8 none (.t 30) (.t 32)),
Q 35 (.load true 8 (.t 34)),
M 8 (.alloc 116 8 [dc (.int .i64 0), dc (.str []), dc (.sl [] true), dc (.int .i64 0), dc (.int .i64 0), dc (.str []), dc (.sl [] true), dc (.int .i64 0)]),
⟨none, .e (.store 8 (.t 8) (.t 35)), none, 0⟩]) (
.seq (
.region [Q 36 (.mov (.t 6)),
Q 37 (.load true 8 (.t 8)),
E 38 (.callf 52 [(.t 36), (.t 37)]),
Q 9 (.mov (.t 38))]) (
.seq (
.region [Q 39 (.mov (.t 9)),
Q 40 (.bin .neq .scalar (.t 39) (ci 0))]) (
.cond (.t 40) (
.seq (
.region [Q 41 (.mov (.t 9)),
Q 4 (.mov (.t 41))]) (
.ret)) (
.skip)))))) (
.region [Q 42 (.bin .add .scalar (.t 32) (ci 1)),
Q 32 (.mov (.t 42))]))))))) (
.seq (
.seq (
.region [Q 43 (.mov (.t 6)),
Q 44 (.nilck (.t 43)),
Q 45 (.faddr 2 (.t 44)),
Q 46 (.load false 1 (.t 45)),
M 47 (.range false (.t 46))]) (
.block 2 (
.loop (
.seq (
.region [E 48 (.next false (.t 47)),
Q 49 (.extract 0 (.t 48))]) (
.seq (
.cond (.t 49) (
.skip) (
.exit 2)) (
.block 3 (
.seq (
.region [E 50 (.entry (.t 47)),
Q 51 (.extract 0 (.t 50)),
Q 52 (.extract 1 (.t 50)),
M 10 (.alloc 118 2 [dc (.str []), dc (.str [])]),
⟨none, .e (.store 2 (.t 10) (.t 51)), none, 0⟩,
Q 11 (.mov (.t 52))]) (
.seq (
.draw [⟨0, ⟨some 54, .q (.mov (.t 6)), none, 0⟩⟩,
⟨1, ⟨some 55, .q (.nilck (.t 54)), none, 1⟩⟩,
⟨2, ⟨some 56, .q (.faddr 0 (.t 55)), none, 3⟩⟩,
⟨3, ⟨some 57, .q (.load false 1 (.t 56)), none, 7⟩⟩,
⟨4, ⟨some 58, .q (.nilck (.t 57)), none, 15⟩⟩,
⟨5, ⟨some 59, .q (.faddr 3 (.t 58)), none, 31⟩⟩,
⟨6, ⟨some 60, .q (.load false 1 (.t 59)), none, 63⟩⟩,
⟨7, ⟨some 61, .q (.iaddr 1 (some 2) (.t 10) (ci 0)), none, 0⟩⟩,
⟨8, ⟨some 62, .q (.load false 1 (.t 61)), none, 128⟩⟩,
⟨9, ⟨some 63, .q (.lookup .str (.one (dc (.nilp))) false (.t 60) (.t 62)), none, 511⟩⟩,
⟨10, ⟨some 64, .q (.nilck (.t 63)), none, 1023⟩⟩,
⟨11, ⟨some 65, .q (.faddr 1 (.t 64)), none, 2047⟩⟩,
⟨12, ⟨some 66, .q (.load false 1 (.t 65)), none, 4095⟩⟩,
⟨13, ⟨some 67, .q (.iaddr 1 (some 2) (.t 10) (ci 1)), none, 0⟩⟩,
⟨14, ⟨some 68, .q (.load false 1 (.t 67)), none, 8192⟩⟩,
⟨15, ⟨some 69, .q (.lookup .str (.one (dc (.sl [] true))) false (.t 66) (.t 68)), none, 32767⟩⟩,
⟨16, ⟨some 70, .q (.faddr 1 (.t 3)), none, 0⟩⟩,
⟨17, ⟨some 71, .q (.load false 1 (.t 70)), none, 65536⟩⟩,
⟨18, ⟨some 72, .q (.mov (.t 11)), none, 0⟩⟩,
⟨19, ⟨some 73, .e (.callf 53 [(.t 69), (.t 71), (.t 72)]), none, 524287⟩⟩,
⟨20, ⟨some 53, .q (.mov (.t 73)), none, 1048575⟩⟩,
⟨21, ⟨some 74, .q (.extract 0 (.t 53)), none, 2097151⟩⟩,
⟨22, ⟨some 75, .q (.extract 1 (.t 53)), none, 2097151⟩⟩,
⟨23, ⟨some 12, .q (.mov (.t 74)), none, 4194303⟩⟩,
⟨24, ⟨some 13, .q (.mov (.t 75)), none, 16777215⟩⟩]) (
.draw [⟨0, ⟨some 76, .q (.mov (.t 6)), none, 0⟩⟩,
⟨1, ⟨some 77, .q (.nilck (.t 76)), none, 1⟩⟩,
⟨2, ⟨some 78, .q (.faddr 0 (.t 77)), none, 3⟩⟩,
⟨3, ⟨some 79, .q (.load false 1 (.t 78)), none, 7⟩⟩,
⟨4, ⟨some 80, .q (.nilck (.t 79)), none, 15⟩⟩,
⟨5, ⟨some 81, .q (.faddr 3 (.t 80)), none, 31⟩⟩,
⟨6, ⟨some 82, .q (.load false 1 (.t 81)), none, 63⟩⟩,
⟨7, ⟨some 83, .q (.iaddr 1 (some 2) (.t 10) (ci 0)), none, 0⟩⟩,
⟨8, ⟨some 84, .q (.load false 1 (.t 83)), none, 128⟩⟩,
⟨9, ⟨some 85, .q (.lookup .str (.one (dc (.nilp))) false (.t 82) (.t 84)), none, 511⟩⟩,
⟨10, ⟨some 86, .q (.iaddr 1 (some 2) (.t 10) (ci 1)), none, 0⟩⟩,
⟨11, ⟨some 87, .q (.load false 1 (.t 86)), none, 1024⟩⟩,
⟨12, ⟨some 88, .q (.mov (.t 12)), none, 0⟩⟩,
⟨13, ⟨some 89, .e (.callf 54 [(.t 85), (.t 87), (.t 88)]), none, 8191⟩⟩]))))))))) (
.seq (
.draw [⟨0, ⟨some 90, .q (.mov (.t 0)), none, 0⟩⟩,
⟨1, ⟨some 91, .q (.mov (.t 0)), none, 0⟩⟩,
⟨2, ⟨some 92, .q (.mov (.t 0)), none, 0⟩⟩,
⟨3, ⟨some 93, .q (.mov (.t 6)), none, 0⟩⟩,
⟨4, ⟨some 94, .q (.nilck (.t 93)), none, 8⟩⟩,
⟨5, ⟨some 95, .q (.faddr 0 (.t 94)), none, 24⟩⟩,
⟨6, ⟨some 96, .q (.load false 1 (.t 95)), none, 56⟩⟩,
⟨7, ⟨some 97, .q (.nilck (.t 96)), none, 120⟩⟩,
⟨8, ⟨some 98, .q (.faddr 3 (.t 97)), none, 248⟩⟩,
⟨9, ⟨some 99, .q (.load false 1 (.t 98)), none, 504⟩⟩,
⟨10, ⟨some 100, .q (.faddr 0 (.t 3)), none, 0⟩⟩,
⟨11, ⟨some 101, .q (.load false 1 (.t 100)), none, 1024⟩⟩,
⟨12, ⟨some 102, .q (.faddr 1 (.t 3)), none, 0⟩⟩,
⟨13, ⟨some 103, .q (.load false 1 (.t 102)), none, 4096⟩⟩,
⟨14, ⟨some 104, .q (.nilck (.t 90)), none, 1017⟩⟩,
⟨15, ⟨some 105, .q (.faddr 3 (.t 104)), none, 17401⟩⟩,
⟨16, ⟨none, .e (.store 1 (.t 105) (.t 99)), none, 50169⟩⟩,
⟨17, ⟨some 106, .q (.nilck (.t 91)), none, 118779⟩⟩,
⟨18, ⟨some 107, .q (.faddr 0 (.t 106)), none, 249851⟩⟩,
⟨19, ⟨none, .e (.store 1 (.t 107) (.t 101)), none, 511995⟩⟩,
⟨20, ⟨some 108, .q (.nilck (.t 92)), none, 1048575⟩⟩,
⟨21, ⟨some 109, .q (.faddr 1 (.t 108)), none, 2097151⟩⟩,
⟨22, ⟨none, .e (.store 1 (.t 109) (.t 103)), none, 4194303⟩⟩]) (
.seq (
.region [Q 4 (.mov (ci 0))]) (
.ret))))))))
def a10 : AFunc := ⟨c10, [.tmp 4], false⟩
def c11 : ACode :=
.seq (
.region [Q 2 (.mov (ci 0))]) (
.seq (
.seq (
.region [Q 3 (.mov (.t 0)),
Q 4 (.bin .eql .ptr (.t 3) (.c (.one (dc (.nilp)))))]) (
.cond (.t 4) (
.seq (
.region [Q 2 (.mov (ci 0))]) (
.ret)) (
.skip))) (
.seq (
.region [Q 5 (.mov (.t 0)),
Q 6 (.nilck (.t 5)),
Q 7 (.faddr 0 (.t 6)),
Q 8 (.load false 1 (.t 7)),
Q 2 (.mov (.t 8))]) (
.ret)))
def a11 : AFunc := ⟨c11, [.tmp 2], true⟩
def c14 : ACode :=
.seq (
.region [Q 2 (.mov (.c (.one (dc (.sl [] true)))))]) (
.seq (
.seq (
.region [Q 3 (.mov (.t 0)),
Q 4 (.bin .eql .ptr (.t 3) (.c (.one (dc (.nilp)))))]) (
.cond (.t 4) (
.seq (
.region [Q 2 (.mov (.c (.one (dc (.sl [] true)))))]) (
.ret)) (
.skip))) (
.seq (
.region [Q 5 (.mov (.t 0)),
Q 6 (.nilck (.t 5)),
Q 7 (.faddr 3 (.t 6)),
Q 8 (.load false 1 (.t 7)),
E 9 (.callf 55 [(.t 8)]),
Q 2 (.mov (.t 9))]) (
.ret)))
def a14 : AFunc := ⟨c14, [.tmp 2], true⟩
def c18 : ACode :=
.seq (
.region [Q 2 (.mov (cs []))]) (
.seq (
.seq (
.region [Q 6 (.mov (.t 0)),
Q 7 (.bin .eql .ptr (.t 6) (.c (.one (dc (.nilp)))))]) (
.cond (.t 7) (
.seq (
.region [Q 2 (.mov (cs []))]) (
.ret)) (
.skip))) (
.seq (
.draw [⟨0, ⟨some 8, .q (.mov (.t 0)), none, 0⟩⟩,
⟨1, ⟨some 9, .q (.nilck (.t 8)), none, 1⟩⟩,
⟨2, ⟨some 10, .q (.faddr 0 (.t 9)), none, 3⟩⟩,
⟨3, ⟨some 11, .q (.load false 1 (.t 10)), none, 7⟩⟩,
⟨4, ⟨some 12, .q (.mov (.t 0)), none, 0⟩⟩,
⟨5, ⟨some 13, .q (.nilck (.t 12)), none, 16⟩⟩,
⟨6, ⟨some 14, .q (.faddr 1 (.t 13)), none, 48⟩⟩,
⟨7, ⟨some 15, .q (.load false 1 (.t 14)), none, 112⟩⟩,
⟨8, ⟨some 16, .q (.bin .add .scalar (.t 15) (ci 1)), none, 240⟩⟩,
⟨9, ⟨some 17, .q (.mov (.t 0)), none, 0⟩⟩,
⟨10, ⟨some 18, .q (.nilck (.t 17)), none, 512⟩⟩,
⟨11, ⟨some 19, .q (.faddr 2 (.t 18)), none, 1536⟩⟩,
⟨12, ⟨some 20, .q (.load false 1 (.t 19)), none, 3584⟩⟩,
⟨13, ⟨some 21, .q (.mov (.t 0)), none, 0⟩⟩,
⟨14, ⟨some 22, .q (.nilck (.t 21)), none, 8192⟩⟩,
⟨15, ⟨some 23, .q (.faddr 3 (.t 22)), none, 24576⟩⟩,
⟨16, ⟨some 24, .q (.load false 1 (.t 23)), none, 57344⟩⟩,
⟨17, ⟨some 25, .q (.len .map (.t 24)), none, 122880⟩⟩,
⟨18, ⟨some 26, .m (.bslice 3 1 4 [dc (.int .i64 0), dc (.int .i64 0), dc (.int .i64 0), dc (.int .i64 0)] [(0, 1, (.t 11)), (1, 1, (.t 16)), (2, 1, (.t 20)), (3, 1, (.t 25))]), none, 262143⟩⟩,
⟨19, ⟨some 27, .e (.callf 58 [(.t 26)]), none, 524287⟩⟩,
⟨20, ⟨some 3, .q (.mov (.t 27)), none, 1048575⟩⟩]) (
.seq (
.seq (
.region [Q 28 (.mov (.t 0)),
E 29 (.callf 14 [(.t 28)]),
Q 30 (.len .sl (.t 29)),
Q 31 (.mov (ci 0))]) (
.block 0 (
.loop (
.seq (
.region [Q 32 (.bin .lss .scalar (.t 31) (.t 30))]) (
.seq (
.cond (.t 32) (
.skip) (
.exit 0)) (
.seq (
.block 1 (
.seq (
.region [Q 33 (.iaddr 1 none (.t 29) (.t 31)),
Q 34 (.load false 1 (.t 33)),
Q 5 (.mov (.t 34))]) (
.region [Q 35 (.mov (.t 3)),
Q 36 (.mov (.t 0)),
Q 37 (.nilck (.t 36)),
Q 38 (.faddr 3 (.t 37)),
Q 39 (.load false 1 (.t 38)),
Q 40 (.mov (.t 5)),
Q 41 (.lookup .str (.one (dc (.nilp))) false (.t 39) (.t 40)),
E 42 (.callf 59 [(.t 41)]),
Q 43 (.bin .add .scalar (.t 35) (.t 42)),
Q 3 (.mov (.t 43))]))) (
.region [Q 44 (.bin .add .scalar (.t 31) (ci 1)),
Q 31 (.mov (.t 44))]))))))) (
.seq (
.region [Q 45 (.mov (.t 3)),
Q 2 (.mov (.t 45))]) (
.ret)))))
def a18 : AFunc := ⟨c18, [.tmp 2], true⟩
def c19 : ACode :=
.seq (
.region [Q 2 (.mov (.c (.one (dc (.nilp)))))]) (
.seq (
.seq (
.region [Q 6 (.mov (.t 0)),
Q 7 (.bin .eql .ptr (.t 6) (.c (.one (dc (.nilp)))))]) (
.cond (.t 7) (
.seq (
.region [Q 2 (.mov (.c (.one (dc (.nilp)))))]) (
.ret)) (
.skip))) (
.seq (
.region [Q 8 (.mov (.t 0)),
Q 9 (.nilck (.t 8)),
Q 10 (.load true 4 (.t 9)),
M 3 (.alloc 96 4 [dc (.int .i64 0), dc (.int .i64 0), dc (.int .i64 0), dc (.nilm)]),
⟨none, .e (.store 4 (.t 3) (.t 10)), none, 0⟩]) (
.seq (
.region [M 11 (.mkmap .str),
Q 12 (.faddr 3 (.t 3)),
⟨none, .e (.store 1 (.t 12) (.t 11)), none, 0⟩]) (
.seq (
.seq (
.region [Q 13 (.mov (.t 0)),
Q 14 (.nilck (.t 13)),
Q 15 (.faddr 3 (.t 14)),
Q 16 (.load false 1 (.t 15)),
M 17 (.range false (.t 16))]) (
.block 0 (
.loop (
.seq (
.region [E 18 (.next false (.t 17)),
Q 19 (.extract 0 (.t 18))]) (
.seq (
.cond (.t 19) (
.skip) (
.exit 0)) (
.block 1 (
.seq (
.region [E 20 (.entry (.t 17)),
Q 21 (.extract 0 (.t 20)),
Q 22 (.extract 1 (.t 20)),
Q 4 (.mov (.t 21)),
Q 5 (.mov (.t 22))]) (
.draw [⟨0, ⟨some 23, .q (.faddr 3 (.t 3)), none, 0⟩⟩,
⟨1, ⟨some 24, .q (.load false 1 (.t 23)), none, 1⟩⟩,
⟨2, ⟨some 25, .q (.mov (.t 4)), none, 0⟩⟩,
⟨3, ⟨some 26, .q (.mov (.t 5)), none, 0⟩⟩,
⟨4, ⟨some 27, .e (.callf 60 [(.t 26)]), none, 8⟩⟩,
⟨5, ⟨none, .e (.mapup .str (.t 24) (.t 25) (.t 27)), none, 31⟩⟩])))))))) (
.seq (
.region [Q 2 (.mov (.t 3))]) (
.ret))))))
def a19 : AFunc := ⟨c19, [.tmp 2], false⟩
def c21 : ACode :=
.seq (
.region [Q 2 (.mov (.c (.one (dc (.nilp))))),
Q 3 (.mov (ci 0))]) (
.seq (
.seq (
.region [Q 4 (.mov (.t 0)),
E 5 (.callf 66 [(.t 4)]),
Q 6 (.bin .eql .ptr (.t 5) (.c (.one (dc (.nilp)))))]) (
.cond (.t 6) (
.seq (
.region [Q 2 (.mov (.c (.one (dc (.nilp))))),
Q 3 (.mov (ci 1))]) (
.ret)) (
.skip))) (
.seq (
.region [Q 7 (.mov (.t 0)),
Q 8 (.mov (.t 0)),
E 9 (.callf 67 [(.t 8)]),
Q 10 (.build [dc (.nilp), dc (.str []), dc (.bool false), dc (.int .i64 0), dc (.int .i64 0), dc (.int .i64 0)] [(0, 1, (.t 7)), (2, 1, (.t 9))]),
M 11 (.box 56 6 (.t 10)),
Q 2 (.mov (.t 11)),
Q 3 (.mov (ci 0))]) (
.ret)))
def a21 : AFunc := ⟨c21, [.tmp 2, .tmp 3], false⟩
def c22 : ACode :=
.seq (
.region [Q 2 (.mov (ci 0)),
Q 3 (.mov (ci 0)),
Q 4 (.mov (ci 0))]) (
.seq (
.seq (
.region [Q 5 (.mov (.t 0)),
E 6 (.callf 68 [(.t 5)]),
Q 7 (.un .not (.t 6))]) (
.cond (.t 7) (
.seq (
.region [Q 2 (.mov (ci 0)),
Q 3 (.mov (ci 0)),
Q 4 (.mov (ci 0))]) (
.ret)) (
.skip))) (
.seq (
.draw [⟨0, ⟨some 8, .q (.mov (.t 0)), none, 0⟩⟩,
⟨1, ⟨some 9, .q (.nilck (.t 8)), none, 1⟩⟩,
⟨2, ⟨some 10, .q (.faddr 3 (.t 9)), none, 3⟩⟩,
⟨3, ⟨some 11, .q (.load false 1 (.t 10)), none, 7⟩⟩,
⟨4, ⟨some 12, .q (.mov (.t 0)), none, 0⟩⟩,
⟨5, ⟨some 13, .q (.nilck (.t 12)), none, 16⟩⟩,
⟨6, ⟨some 14, .q (.faddr 4 (.t 13)), none, 48⟩⟩,
⟨7, ⟨some 15, .q (.load false 1 (.t 14)), none, 112⟩⟩,
⟨8, ⟨some 16, .q (.mov (.t 0)), none, 0⟩⟩,
⟨9, ⟨some 17, .q (.nilck (.t 16)), none, 256⟩⟩,
⟨10, ⟨some 18, .q (.faddr 5 (.t 17)), none, 768⟩⟩,
⟨11, ⟨some 19, .q (.load false 1 (.t 18)), none, 1792⟩⟩,
⟨12, ⟨some 2, .q (.mov (.t 11)), none, 15⟩⟩,
⟨13, ⟨some 3, .q (.mov (.t 15)), none, 4351⟩⟩,
⟨14, ⟨some 4, .q (.mov (.t 19)), none, 16383⟩⟩]) (
.ret)))
def a22 : AFunc := ⟨c22, [.tmp 2, .tmp 3, .tmp 4], false⟩
def c23 : ACode :=
.seq (
.region [Q 4 (.mov (.c (.one (dc (.sl [] true)))))]) (
.seq (
.seq (
.region [Q 10 (.mov (.t 0)),
E 11 (.callf 68 [(.t 10)]),
Q 12 (.un .not (.t 11))]) (
.cond (.t 12) (
.seq (
.region [Q 4 (.mov (.c (.one (dc (.sl [] true)))))]) (
.ret)) (
.skip))) (
.seq (
.region [Q 13 (.mov (.t 0)),
Q 14 (.nilck (.t 13)),
Q 15 (.faddr 1 (.t 14)),
Q 16 (.load false 1 (.t 15)),
Q 17 (.mov (.t 1)),
Q 18 (.bin .add .scalar (.t 16) (.t 17)),
Q 19 (.nilck (.t 13)),
Q 20 (.faddr 1 (.t 19)),
⟨none, .e (.store 1 (.t 20) (.t 18)), none, 0⟩]) (
.seq (
.region [Q 5 (.mov (.c (.one (dc (.sl [] true)))))]) (
.seq (
.skip) (
.seq (
.block 0 (
.loop (
.block 1 (
.seq (
.region [Q 22 (.mov (.t 0)),
Q 23 (.nilck (.t 22)),
Q 24 (.faddr 1 (.t 23)),
Q 25 (.load false 1 (.t 24)),
E 26 (.callf 69 [(.t 25)]),
Q 21 (.mov (.t 26)),
Q 27 (.extract 0 (.t 21)),
Q 28 (.extract 1 (.t 21)),
Q 29 (.extract 2 (.t 21)),
Q 6 (.mov (.t 27)),
Q 7 (.mov (.t 28)),
Q 8 (.mov (.t 29))]) (
.seq (
.region [Q 30 (.mov (.t 8)),
Q 31 (.build [dc (.int .i64 0), dc (.int .i64 0)] [(1, 1, (.t 30))]),
M 9 (.alloc 137 2 [dc (.int .i64 0), dc (.int .i64 0)]),
⟨none, .e (.store 2 (.t 9) (.t 31)), none, 0⟩]) (
.seq (
.seq (
.region [Q 32 (.mov (.t 8))]) (
.block 2 (
.seq (
.region [Q 37 (.bin .eql .scalar (.t 32) (ci 8)),
Q 36 (.mov (.t 37))]) (
.cond (.t 36) (
.exit 0) (
.seq (
.region [Q 39 (.bin .eql .scalar (.t 32) (ci 0)),
Q 38 (.mov (.t 39))]) (
.cond (.t 38) (
.seq (
.region [Q 40 (.mov (.t 0)),
Q 41 (.mov (.t 0)),
Q 42 (.nilck (.t 41)),
Q 43 (.faddr 1 (.t 42)),
Q 44 (.load false 1 (.t 43)),
Q 45 (.mov (.t 7)),
Q 46 (.sslice (.t 44) (some (.t 45)) none),
Q 47 (.nilck (.t 40)),
Q 48 (.faddr 1 (.t 47)),
⟨none, .e (.store 1 (.t 48) (.t 46)), none, 0⟩]) (
.region [Q 49 (.mov (.t 0)),
Q 50 (.mov (.t 6)),
E 51 (.callf 70 [(.t 49), (.t 50)]),
⟨none, .e (.store 2 (.t 9) (.t 51)), none, 0⟩])) (
.region [Q 33 (.mov (.t 0)),
Q 34 (.nilck (.t 33)),
Q 35 (.faddr 1 (.t 34)),
⟨none, .e (.store 1 (.t 35) (cs [])), none, 0⟩]))))))) (
.seq (
.seq (
.region [Q 52 (.faddr 1 (.t 9)),
Q 53 (.load false 1 (.t 52)),
Q 54 (.bin .neq .scalar (.t 53) (ci 0))]) (
.cond (.t 54) (
.region [Q 55 (.mov (.t 0)),
Q 56 (.nilck (.t 55)),
Q 57 (.faddr 5 (.t 56)),
Q 58 (.load false 1 (.t 57)),
Q 59 (.bin .add .scalar (.t 58) (ci 1)),
Q 60 (.nilck (.t 55)),
Q 61 (.faddr 5 (.t 60)),
⟨none, .e (.store 1 (.t 61) (.t 59)), none, 0⟩]) (
.skip))) (
.region [Q 62 (.mov (.t 5)),
Q 63 (.load true 2 (.t 9)),
M 64 (.bslice 137 2 1 [dc (.int .i64 0), dc (.int .i64 0)] [(0, 2, (.t 63))]),
E 65 (.append 137 2 16 (.t 62) (.t 64)),
Q 5 (.mov (.t 65))])))))))) (
.seq (
.region [Q 66 (.mov (.t 5)),
Q 4 (.mov (.t 66))]) (
.ret)))))))
def a23 : AFunc := ⟨c23, [.tmp 4], false⟩
def c24 : ACode :=
.seq (
.region [Q 2 (.mov (ci 0))]) (
.seq (
.seq (
.region [Q 3 (.mov (.t 0)),
E 4 (.callf 68 [(.t 3)]),
Q 5 (.un .not (.t 4))]) (
.cond (.t 5) (
.seq (
.region [Q 2 (.mov (ci 0))]) (
.ret)) (
.skip))) (
.seq (
.region [Q 6 (.mov (.t 0)),
Q 7 (.nilck (.t 6)),
Q 8 (.faddr 0 (.t 7)),
Q 9 (.load false 1 (.t 8)),
E 10 (.callf 66 [(.t 9)]),
E 11 (.callf 11 [(.t 10)]),
Q 2 (.mov (.t 11))]) (
.ret)))
def a24 : AFunc := ⟨c24, [.tmp 2], false⟩
def c25 : ACode :=
.seq (
.region [Q 2 (.mov (ci 0))]) (
.seq (
.seq (
.region [Q 3 (.mov (.t 0)),
E 4 (.callf 68 [(.t 3)]),
Q 5 (.un .not (.t 4))]) (
.cond (.t 5) (
.seq (
.region [Q 2 (.mov (ci 0))]) (
.ret)) (
.skip))) (
.seq (
.region [Q 6 (.mov (.t 0)),
Q 7 (.nilck (.t 6)),
Q 8 (.faddr 1 (.t 7)),
Q 9 (.load false 1 (.t 8)),
Q 10 (.len .str (.t 9)),
Q 2 (.mov (.t 10))]) (
.ret)))
def a25 : AFunc := ⟨c25, [.tmp 2], false⟩
def c26 : ACode :=
.seq (
.region [Q 2 (.mov (cb false))]) (
.seq (
.region [Q 3 (.mov (.t 0)),
E 4 (.callf 68 [(.t 3)]),
Q 5 (.mov (.t 4)),
⟨some 6, .q (.mov (.t 0)), some (5, true), 0⟩,
⟨some 7, .q (.nilck (.t 6)), some (5, true), 0⟩,
⟨some 8, .q (.faddr 2 (.t 7)), some (5, true), 0⟩,
⟨some 9, .q (.load false 1 (.t 8)), some (5, true), 0⟩,
Q 10 (.pick (.t 5) (.t 9) (cb false)),
Q 2 (.mov (.t 10))]) (
.ret))
def a26 : AFunc := ⟨c26, [.tmp 2], false⟩
def c27 : ACode :=
.seq (
.region [Q 0 (.mov (cb false))]) (
.seq (
.region [E 15 (.callf 71 [(ci 200), (ci 80)]),
Q 14 (.mov (.t 15)),
Q 16 (.extract 0 (.t 14)),
Q 17 (.extract 1 (.t 14)),
Q 18 (.extract 2 (.t 14)),
Q 1 (.mov (.t 16)),
Q 2 (.mov (.t 17)),
Q 3 (.mov (.t 18))]) (
.seq (
.region [E 20 (.callf 21 [(.c (.one (dc (.nilp))))]),
Q 19 (.mov (.t 20)),
Q 21 (.extract 0 (.t 19)),
Q 22 (.extract 1 (.t 19)),
Q 4 (.mov (.t 21)),
Q 5 (.mov (.t 22))]) (
.seq (
.seq (
.region [Q 23 (.mov (.t 3)),
Q 24 (.bin .eql .ptr (.t 23) (.c (.one (dc (.nilp))))),
Q 25 (.mov (.t 24)),
⟨some 26, .q (.mov (.t 2)), some (25, false), 0⟩,
⟨some 27, .q (.bin .eql .ptr (.t 26) (.c (.one (dc (.nilp))))), some (25, false), 0⟩,
Q 28 (.pick (.t 25) (cb true) (.t 27))]) (
.cond (.t 28) (
.seq (
.region [Q 0 (.mov (cb false))]) (
.ret)) (
.skip))) (
.seq (
.region [E 29 (.callf 62 [(cs [116]), (cb false)]),
M 30 (.bslice 116 8 1 [dc (.int .i64 0), dc (.str []), dc (.sl [] true), dc (.int .i64 0), dc (.int .i64 0), dc (.str []), dc (.sl [] true), dc (.int .i64 0)] [(0, 8, (.t 29))]),
Q 31 (.build [dc (.int .i64 0), dc (.int .i64 0), dc (.sl [] true)] [(0, 1, (ci 1)), (1, 1, (ci 5)), (2, 1, (.t 30))]),
E 32 (.callf 72 [(.t 31)]),
Q 6 (.mov (.t 32))]) (
.seq (
.region [Q 33 (.build [dc (.int .i64 0), dc (.int .i64 0), dc (.sl [] true)] [(0, 1, (ci 3)), (1, 1, (ci 6))]),
E 34 (.callf 72 [(.t 33)]),
Q 7 (.mov (.t 34))]) (
.seq (
.region [Q 35 (.mov (.t 3)),
Q 36 (.mov (.t 6)),
Q 37 (.mov (.t 6)),
Q 38 (.bin .add .scalar (.t 36) (.t 37)),
Q 39 (.mov (.t 7)),
Q 40 (.bin .add .scalar (.t 38) (.t 39)),
Q 41 (.bin .add .scalar (.t 40) (cs [0, 0])),
E 42 (.callf 23 [(.t 35), (.t 41)]),
Q 8 (.mov (.t 42))]) (
.seq (
.region [Q 43 (.mov (.t 3)),
E 44 (.callf 25 [(.t 43)]),
Q 9 (.mov (.t 44))]) (
.seq (
.region [Q 45 (.mov (.t 3)),
Q 46 (.mov (.t 6)),
Q 47 (.bin .add .scalar (cs [0, 1, 97, 0, 0, 0, 0]) (.t 46)),
E 48 (.callf 23 [(.t 45), (.t 47)]),
Q 10 (.mov (.t 48))]) (
.seq (
.region [Q 50 (.mov (.t 3)),
E 51 (.callf 22 [(.t 50)]),
Q 49 (.mov (.t 51)),
Q 52 (.extract 0 (.t 49)),
Q 53 (.extract 1 (.t 49)),
Q 54 (.extract 2 (.t 49)),
Q 11 (.mov (.t 52)),
Q 12 (.mov (.t 53)),
Q 13 (.mov (.t 54))]) (
.seq (
.region [Q 55 (.mov (.t 5)),
Q 56 (.bin .eql .scalar (.t 55) (ci 1)),
Q 57 (.mov (.t 56)),
⟨some 58, .q (.mov (.t 8)), some (57, true), 0⟩,
⟨some 59, .e (.callf 74 [(.t 58)]), some (57, true), 0⟩,
⟨some 60, .q (.build [dc (.int .i64 0), dc (.int .i64 0)] [(0, 1, (ci 1))]), some (57, true), 0⟩,
⟨some 61, .q (.build [dc (.int .i64 0), dc (.int .i64 0)] [(0, 1, (ci 1))]), some (57, true), 0⟩,
⟨some 62, .q (.build [dc (.int .i64 0), dc (.int .i64 0)] [(0, 1, (ci 3)), (1, 1, (ci 12))]), some (57, true), 0⟩,
⟨some 63, .m (.bslice 145 2 3 [dc (.int .i64 0), dc (.int .i64 0), dc (.int .i64 0), dc (.int .i64 0), dc (.int .i64 0), dc (.int .i64 0)] [(0, 2, (.t 60)), (2, 2, (.t 61)), (4, 2, (.t 62))]), some (57, true), 0⟩,
⟨some 64, .e (.callf 73 [(.t 59), (.t 63)]), some (57, true), 0⟩,
Q 65 (.pick (.t 57) (.t 64) (cb false)),
Q 66 (.mov (.t 65)),
⟨some 67, .q (.mov (.t 9)), some (66, true), 0⟩,
⟨some 68, .q (.bin .eql .scalar (.t 67) (ci 2)), some (66, true), 0⟩,
Q 69 (.pick (.t 66) (.t 68) (cb false)),
Q 70 (.mov (.t 69)),
⟨some 71, .q (.mov (.t 10)), some (70, true), 0⟩,
⟨some 72, .e (.callf 74 [(.t 71)]), some (70, true), 0⟩,
⟨some 73, .q (.build [dc (.int .i64 0), dc (.int .i64 0)] [(1, 1, (ci 9))]), some (70, true), 0⟩,
⟨some 74, .m (.bslice 145 2 1 [dc (.int .i64 0), dc (.int .i64 0)] [(0, 2, (.t 73))]), some (70, true), 0⟩,
⟨some 75, .e (.callf 73 [(.t 72), (.t 74)]), some (70, true), 0⟩,
Q 76 (.pick (.t 70) (.t 75) (cb false)),
Q 77 (.mov (.t 76)),
⟨some 78, .q (.mov (.t 3)), some (77, true), 0⟩,
⟨some 79, .e (.callf 25 [(.t 78)]), some (77, true), 0⟩,
⟨some 80, .q (.bin .eql .scalar (.t 79) (ci 0)), some (77, true), 0⟩,
Q 81 (.pick (.t 77) (.t 80) (cb false)),
Q 82 (.mov (.t 81)),
⟨some 83, .q (.mov (.t 3)), some (82, true), 0⟩,
⟨some 84, .e (.callf 24 [(.t 83)]), some (82, true), 0⟩,
⟨some 85, .q (.bin .eql .scalar (.t 84) (ci 1)), some (82, true), 0⟩,
Q 86 (.pick (.t 82) (.t 85) (cb false)),
Q 87 (.mov (.t 86)),
⟨some 88, .q (.mov (.t 3)), some (87, true), 0⟩,
⟨some 89, .e (.callf 26 [(.t 88)]), some (87, true), 0⟩,
⟨some 90, .q (.un .not (.t 89)), some (87, true), 0⟩,
Q 91 (.pick (.t 87) (.t 90) (cb false)),
Q 92 (.mov (.t 91)),
⟨some 93, .q (.mov (.t 11)), some (92, true), 0⟩,
⟨some 94, .q (.bin .eql .scalar (.t 93) (ci 1)), some (92, true), 0⟩,
Q 95 (.pick (.t 92) (.t 94) (cb false)),
Q 96 (.mov (.t 95)),
⟨some 97, .q (.mov (.t 12)), some (96, true), 0⟩,
⟨some 98, .q (.bin .eql .scalar (.t 97) (ci 1)), some (96, true), 0⟩,
Q 99 (.pick (.t 96) (.t 98) (cb false)),
Q 100 (.mov (.t 99)),
⟨some 101, .q (.mov (.t 13)), some (100, true), 0⟩,
⟨some 102, .q (.bin .eql .scalar (.t 101) (ci 2)), some (100, true), 0⟩,
Q 103 (.pick (.t 100) (.t 102) (cb false)),
Q 0 (.mov (.t 103))]) (
.ret)))))))))))
def a27 : AFunc := ⟨c27, [.tmp 0], true⟩
def c42 : ACode :=
.seq (
.region [M 3 (.box 3 1 (.t 1)),
Q 4 (.mov (.c (.one (dc (.sl [] true)))))]) (
.seq (
.seq (
.region [Q 9 (.mov (.t 0)),
E 10 (.callf 85 [(.t 9)]),
Q 11 (.un .not (.t 10))]) (
.cond (.t 11) (
.seq (
.region [Q 4 (.mov (.c (.one (dc (.sl [] true)))))]) (
.ret)) (
.skip))) (
.seq (
.region [Q 5 (.mov (.c (.one (dc (.sl [] true)))))]) (
.seq (
.seq (
.region [Q 12 (.mov (.t 0)),
Q 13 (.mkfn (.func 87) 87 [] [(.t 3)]),
E 14 (.callf 86 [(.t 12), (.t 13)]),
Q 15 (.len .sl (.t 14)),
Q 16 (.mov (ci 0))]) (
.block 0 (
.loop (
.seq (
.region [Q 17 (.bin .lss .scalar (.t 16) (.t 15))]) (
.seq (
.cond (.t 17) (
.skip) (
.exit 0)) (
.seq (
.block 1 (
.seq (
.region [Q 18 (.iaddr 5 none (.t 14) (.t 16)),
Q 19 (.load true 5 (.t 18)),
M 7 (.alloc 105 5 [dc (.int .i64 0), dc (.int .i64 0), dc (.int .i64 0), dc (.int .i64 0), dc (.sl [] true)]),
⟨none, .e (.store 5 (.t 7) (.t 19)), none, 0⟩]) (
.seq (
.region [Q 20 (.mov (.t 5)),
Q 21 (.len .sl (.t 20)),
Q 8 (.mov (.t 21))]) (
.seq (
.block 2 (
.loop (
.seq (
.seq (
.draw [⟨0, ⟨some 22, .q (.mov (.t 8)), none, 0⟩⟩,
⟨1, ⟨some 23, .q (.bin .gtr .scalar (.t 22) (ci 0)), none, 1⟩⟩,
⟨2, ⟨some 24, .q (.mov (.t 23)), none, 3⟩⟩,
⟨3, ⟨some 25, .q (.mov (.t 5)), some (24, true), 7⟩⟩,
⟨4, ⟨some 26, .q (.mov (.t 8)), some (24, true), 7⟩⟩,
⟨5, ⟨some 27, .q (.bin .sub .scalar (.t 26) (ci 1)), some (24, true), 23⟩⟩,
⟨6, ⟨some 28, .q (.iaddr 3 none (.t 25) (.t 27)), some (24, true), 63⟩⟩,
⟨7, ⟨some 29, .q (.faddr 0 (.t 28)), some (24, true), 127⟩⟩,
⟨8, ⟨some 30, .q (.faddr 0 (.t 29)), some (24, true), 255⟩⟩,
⟨9, ⟨some 31, .q (.load false 1 (.t 30)), some (24, true), 511⟩⟩,
⟨10, ⟨some 32, .q (.faddr 2 (.t 7)), some (24, true), 7⟩⟩,
⟨11, ⟨some 33, .q (.faddr 0 (.t 32)), some (24, true), 1031⟩⟩,
⟨12, ⟨some 34, .q (.faddr 0 (.t 33)), some (24, true), 3079⟩⟩,
⟨13, ⟨some 35, .q (.load false 1 (.t 34)), some (24, true), 7175⟩⟩,
⟨14, ⟨some 36, .q (.bin .gtr .scalar (.t 31) (.t 35)), some (24, true), 16383⟩⟩,
⟨15, ⟨some 37, .q (.pick (.t 24) (.t 36) (cb false)), none, 32767⟩⟩]) (
.cond (.t 37) (
.skip) (
.exit 2))) (
.block 3 (
.region [Q 38 (.mov (.t 8)),
Q 39 (.bin .sub .scalar (.t 38) (ci 1)),
Q 8 (.mov (.t 39))]))))) (
.draw [⟨0, ⟨some 40, .q (.mov (.t 5)), none, 0⟩⟩,
⟨1, ⟨some 41, .q (.mov (.t 8)), none, 0⟩⟩,
⟨2, ⟨some 42, .q (.mov (.t 8)), none, 0⟩⟩,
⟨3, ⟨some 43, .q (.slice 3 (.t 40) none (some (.t 41)) (some (.t 42))), none, 7⟩⟩,
⟨4, ⟨some 44, .q (.faddr 2 (.t 7)), none, 0⟩⟩,
⟨5, ⟨some 45, .q (.load true 3 (.t 44)), none, 16⟩⟩,
⟨6, ⟨some 46, .m (.bslice 98 3 1 [dc (.int .i64 0), dc (.int .i64 0), dc (.sl [] true)] [(0, 3, (.t 45))]), none, 48⟩⟩,
⟨7, ⟨some 47, .q (.mov (.t 5)), none, 0⟩⟩,
⟨8, ⟨some 48, .q (.mov (.t 8)), none, 0⟩⟩,
⟨9, ⟨some 49, .q (.slice 3 (.t 47) (some (.t 48)) none none), none, 384⟩⟩,
⟨10, ⟨some 50, .e (.append 98 3 40 (.t 46) (.t 49)), none, 1008⟩⟩,
⟨11, ⟨some 51, .e (.append 98 3 40 (.t 43) (.t 50)), none, 2047⟩⟩,
⟨12, ⟨some 5, .q (.mov (.t 51)), none, 4095⟩⟩]))))) (
.region [Q 52 (.bin .add .scalar (.t 16) (ci 1)),
Q 16 (.mov (.t 52))]))))))) (
.seq (
.region [Q 53 (.mov (.t 5)),
Q 4 (.mov (.t 53))]) (
.ret)))))
def a42 : AFunc := ⟨c42, [.tmp 4], true⟩
def c45 : ACode :=
.seq (
.region [M 1 (.box 26 2 (.t 0)),
Q 2 (.mov (cb false))]) (
.seq (
.region [Q 3 (.faddr 0 (.t 1)),
Q 4 (.load false 1 (.t 3)),
Q 5 (.bin .geq .scalar (.t 4) (ci 0)),
Q 6 (.mov (.t 5)),
⟨some 7, .q (.faddr 0 (.t 1)), some (6, true), 0⟩,
⟨some 8, .q (.load false 1 (.t 7)), some (6, true), 0⟩,
⟨some 9, .q (.faddr 1 (.t 1)), some (6, true), 0⟩,
⟨some 10, .q (.load false 1 (.t 9)), some (6, true), 0⟩,
⟨some 11, .q (.bin .lss .scalar (.t 8) (.t 10)), some (6, true), 0⟩,
Q 12 (.pick (.t 6) (.t 11) (cb false)),
Q 13 (.mov (.t 12)),
⟨some 14, .q (.faddr 1 (.t 1)), some (13, true), 0⟩,
⟨some 15, .q (.load false 1 (.t 14)), some (13, true), 0⟩,
⟨some 16, .q (.bin .leq .scalar (.t 15) (ci 1099511627776)), some (13, true), 0⟩,
Q 17 (.pick (.t 13) (.t 16) (cb false)),
Q 2 (.mov (.t 17))]) (
.ret))
def a45 : AFunc := ⟨c45, [.tmp 2], true⟩
def c46 : ACode :=
.seq (
.region [M 2 (.alloc 36 3 [dc (.str []), dc (.sl [] true), dc (.int .i64 0)])]) (
.seq (
.draw [⟨0, ⟨some 3, .q (.mov (.t 0)), none, 0⟩⟩,
⟨1, ⟨some 4, .q (.nilck (.t 3)), none, 1⟩⟩,
⟨2, ⟨some 5, .q (.faddr 0 (.t 4)), none, 3⟩⟩,
⟨3, ⟨some 6, .q (.load false 1 (.t 5)), none, 7⟩⟩,
⟨4, ⟨some 7, .q (.mov (.t 0)), none, 0⟩⟩,
⟨5, ⟨some 8, .q (.nilck (.t 7)), none, 16⟩⟩,
⟨6, ⟨some 9, .q (.faddr 0 (.t 8)), none, 48⟩⟩,
⟨7, ⟨some 10, .q (.load false 1 (.t 9)), none, 112⟩⟩,
⟨8, ⟨some 11, .q (.len .sl (.t 10)), none, 240⟩⟩,
⟨9, ⟨some 12, .q (.bin .sub .scalar (.t 11) (ci 1)), none, 496⟩⟩,
⟨10, ⟨some 13, .q (.iaddr 4 none (.t 6) (.t 12)), none, 1023⟩⟩,
⟨11, ⟨some 14, .q (.faddr 1 (.t 13)), none, 2047⟩⟩,
⟨12, ⟨some 15, .q (.load true 3 (.t 14)), none, 4095⟩⟩,
⟨13, ⟨none, .e (.store 3 (.t 2) (.t 15)), none, 8191⟩⟩]) (
.ret))
def a46 : AFunc := ⟨c46, [.cell 2 true 3], true⟩
def c51 : ACode :=
.seq (
.region [M 3 (.box 24 3 (.t 1)),
Q 4 (.mov (ci 0))]) (
.seq (
.block 0 (
.seq (
.region [Q 6 (.load true 3 (.t 3)),
E 7 (.callf 96 [(.t 6)]),
Q 8 (.un .not (.t 7)),
Q 5 (.mov (.t 8))]) (
.cond (.t 5) (
.seq (
.region [Q 4 (.mov (ci 7))]) (
.ret)) (
.seq (
.draw [⟨0, ⟨some 10, .q (.faddr 0 (.t 3)), none, 0⟩⟩,
⟨1, ⟨some 11, .q (.load false 1 (.t 10)), none, 1⟩⟩,
⟨2, ⟨some 12, .q (.mov (.t 0)), none, 0⟩⟩,
⟨3, ⟨some 13, .q (.nilck (.t 12)), none, 4⟩⟩,
⟨4, ⟨some 14, .q (.faddr 0 (.t 13)), none, 12⟩⟩,
⟨5, ⟨some 15, .q (.load false 1 (.t 14)), none, 28⟩⟩,
⟨6, ⟨some 16, .q (.bin .leq .scalar (.t 11) (.t 15)), none, 63⟩⟩,
⟨7, ⟨some 9, .q (.mov (.t 16)), none, 127⟩⟩]) (
.cond (.t 9) (
.seq (
.region [Q 4 (.mov (ci 5))]) (
.ret)) (
.seq (
.draw [⟨0, ⟨some 18, .q (.faddr 0 (.t 3)), none, 0⟩⟩,
⟨1, ⟨some 19, .q (.load false 1 (.t 18)), none, 1⟩⟩,
⟨2, ⟨some 20, .q (.mov (.t 0)), none, 0⟩⟩,
⟨3, ⟨some 21, .q (.nilck (.t 20)), none, 4⟩⟩,
⟨4, ⟨some 22, .q (.faddr 0 (.t 21)), none, 12⟩⟩,
⟨5, ⟨some 23, .q (.load false 1 (.t 22)), none, 28⟩⟩,
⟨6, ⟨some 24, .q (.bin .add .scalar (.t 23) (ci 1)), none, 60⟩⟩,
⟨7, ⟨some 25, .q (.bin .gtr .scalar (.t 19) (.t 24)), none, 127⟩⟩,
⟨8, ⟨some 17, .q (.mov (.t 25)), none, 255⟩⟩]) (
.cond (.t 17) (
.seq (
.region [Q 4 (.mov (ci 12))]) (
.ret)) (
.seq (
.draw [⟨0, ⟨some 27, .q (.faddr 1 (.t 3)), none, 0⟩⟩,
⟨1, ⟨some 28, .q (.load false 1 (.t 27)), none, 1⟩⟩,
⟨2, ⟨some 29, .q (.mov (.t 0)), none, 0⟩⟩,
⟨3, ⟨some 30, .q (.nilck (.t 29)), none, 4⟩⟩,
⟨4, ⟨some 31, .q (.faddr 1 (.t 30)), none, 12⟩⟩,
⟨5, ⟨some 32, .q (.load false 1 (.t 31)), none, 28⟩⟩,
⟨6, ⟨some 33, .q (.bin .leq .scalar (.t 28) (.t 32)), none, 63⟩⟩,
⟨7, ⟨some 26, .q (.mov (.t 33)), none, 127⟩⟩]) (
.cond (.t 26) (
.seq (
.region [Q 4 (.mov (ci 1))]) (
.ret)) (
.skip)))))))))) (
.seq (
.region [Q 4 (.mov (ci 0))]) (
.ret)))
def a51 : AFunc := ⟨c51, [.tmp 4], true⟩
def c52 : ACode :=
.seq (
.region [M 3 (.box 116 8 (.t 1)),
Q 4 (.mov (ci 0))]) (
.seq (
.seq (
.region [Q 11 (.faddr 0 (.t 3)),
Q 12 (.load false 1 (.t 11)),
Q 13 (.bin .eql .scalar (.t 12) (ci 3))]) (
.cond (.t 13) (
.seq (
.region [Q 14 (.mov (.t 0)),
Q 15 (.faddr 5 (.t 3)),
Q 16 (.load true 3 (.t 15)),
E 17 (.callf 97 [(.t 14), (.t 16)]),
Q 4 (.mov (.t 17))]) (
.ret)) (
.skip))) (
.seq (
.draw [⟨0, ⟨some 18, .q (.mov (.t 0)), none, 0⟩⟩,
⟨1, ⟨some 19, .q (.nilck (.t 18)), none, 1⟩⟩,
⟨2, ⟨some 20, .q (.faddr 0 (.t 19)), none, 3⟩⟩,
⟨3, ⟨some 21, .q (.load false 1 (.t 20)), none, 7⟩⟩,
⟨4, ⟨some 22, .q (.nilck (.t 21)), none, 15⟩⟩,
⟨5, ⟨some 23, .q (.faddr 3 (.t 22)), none, 31⟩⟩,
⟨6, ⟨some 24, .q (.load false 1 (.t 23)), none, 63⟩⟩,
⟨7, ⟨some 25, .q (.faddr 1 (.t 3)), none, 0⟩⟩,
⟨8, ⟨some 26, .q (.load false 1 (.t 25)), none, 128⟩⟩,
⟨9, ⟨some 27, .q (.lookup .str (.one (dc (.nilp))) false (.t 24) (.t 26)), none, 511⟩⟩,
⟨10, ⟨some 5, .q (.mov (.t 27)), none, 1023⟩⟩]) (
.seq (
.seq (
.region [Q 28 (.mov (.t 5)),
Q 29 (.bin .eql .ptr (.t 28) (.c (.one (dc (.nilp)))))]) (
.cond (.t 29) (
.seq (
.region [Q 4 (.mov (ci 18))]) (
.ret)) (
.skip))) (
.seq (
.draw [⟨0, ⟨some 31, .q (.mov (.t 5)), none, 0⟩⟩,
⟨2, ⟨some 33, .q (.load true 8 (.t 3)), none, 0⟩⟩,
⟨1, ⟨some 32, .e (.callf 46 [(.t 31)]), none, 1⟩⟩,
⟨3, ⟨some 34, .e (.callf 98 [(.t 32), (.t 33)]), none, 7⟩⟩,
⟨4, ⟨some 30, .q (.mov (.t 34)), none, 15⟩⟩,
⟨5, ⟨some 35, .q (.extract 0 (.t 30)), none, 31⟩⟩,
⟨6, ⟨some 36, .q (.extract 1 (.t 30)), none, 31⟩⟩,
⟨7, ⟨some 6, .q (.mov (.t 35)), none, 63⟩⟩,
⟨8, ⟨some 7, .q (.mov (.t 36)), none, 255⟩⟩]) (
.seq (
.seq (
.region [Q 37 (.mov (.t 7)),
Q 38 (.bin .neq .scalar (.t 37) (ci 0))]) (
.cond (.t 38) (
.seq (
.region [Q 39 (.mov (.t 7)),
Q 4 (.mov (.t 39))]) (
.ret)) (
.skip))) (
.seq (
.region [Q 40 (.faddr 1 (.t 3)),
Q 41 (.load false 1 (.t 40)),
Q 42 (.mov (.t 6)),
Q 43 (.build [dc (.str []), dc (.str [])] [(0, 1, (.t 41)), (1, 1, (.t 42))]),
M 8 (.alloc 118 2 [dc (.str []), dc (.str [])]),
⟨none, .e (.store 2 (.t 8) (.t 43)), none, 0⟩]) (
.seq (
.draw [⟨0, ⟨some 45, .q (.mov (.t 0)), none, 0⟩⟩,
⟨1, ⟨some 46, .q (.nilck (.t 45)), none, 1⟩⟩,
⟨2, ⟨some 47, .q (.faddr 2 (.t 46)), none, 3⟩⟩,
⟨3, ⟨some 48, .q (.load false 1 (.t 47)), none, 7⟩⟩,
⟨4, ⟨some 49, .q (.load true 2 (.t 8)), none, 0⟩⟩,
⟨5, ⟨some 50, .q (.lookup (.strs 2) (.one (dc (.sl [] true))) true (.t 48) (.t 49)), none, 31⟩⟩,
⟨6, ⟨some 44, .q (.mov (.t 50)), none, 63⟩⟩,
⟨7, ⟨some 51, .q (.extract 0 (.t 44)), none, 127⟩⟩,
⟨8, ⟨some 52, .q (.extract 1 (.t 44)), none, 127⟩⟩,
⟨9, ⟨some 9, .q (.mov (.t 51)), none, 255⟩⟩,
⟨10, ⟨some 10, .q (.mov (.t 52)), none, 1023⟩⟩]) (
.seq (
.seq (
.region [Q 53 (.mov (.t 10)),
Q 54 (.un .not (.t 53))]) (
.cond (.t 54) (
.region [Q 55 (.mov (.t 5)),
Q 56 (.nilck (.t 55)),
Q 57 (.faddr 1 (.t 56)),
Q 58 (.load false 1 (.t 57)),
Q 59 (.mov (.t 6)),
Q 60 (.lookup .str (.one (dc (.sl [] true))) false (.t 58) (.t 59)),
E 61 (.callf 42 [(.t 60), (ci 1099511627775)]),
Q 9 (.mov (.t 61))]) (
.skip))) (
.seq (
.seq (
.region [Q 62 (.faddr 0 (.t 3)),
Q 63 (.load false 1 (.t 62)),
Q 64 (.bin .eql .scalar (.t 63) (ci 1))]) (
.cond (.t 64) (
.draw [⟨0, ⟨some 65, .q (.mov (.t 0)), none, 0⟩⟩,
⟨1, ⟨some 66, .q (.nilck (.t 65)), none, 1⟩⟩,
⟨2, ⟨some 67, .q (.faddr 2 (.t 66)), none, 3⟩⟩,
⟨3, ⟨some 68, .q (.load false 1 (.t 67)), none, 7⟩⟩,
⟨4, ⟨some 69, .q (.load true 2 (.t 8)), none, 0⟩⟩,
⟨5, ⟨some 70, .q (.mov (.t 9)), none, 0⟩⟩,
⟨6, ⟨some 71, .q (.faddr 3 (.t 3)), none, 0⟩⟩,
⟨7, ⟨some 72, .q (.load true 2 (.t 71)), none, 64⟩⟩,
⟨8, ⟨some 73, .q (.faddr 2 (.t 3)), none, 0⟩⟩,
⟨9, ⟨some 74, .q (.load false 1 (.t 73)), none, 256⟩⟩,
⟨10, ⟨some 75, .e (.callf 99 [(.t 70), (.t 72), (.t 74)]), none, 992⟩⟩,
⟨11, ⟨none, .e (.mapup (.strs 2) (.t 68) (.t 69) (.t 75)), none, 2047⟩⟩]) (
.draw [⟨0, ⟨some 76, .q (.mov (.t 0)), none, 0⟩⟩,
⟨1, ⟨some 77, .q (.nilck (.t 76)), none, 1⟩⟩,
⟨2, ⟨some 78, .q (.faddr 2 (.t 77)), none, 3⟩⟩,
⟨3, ⟨some 79, .q (.load false 1 (.t 78)), none, 7⟩⟩,
⟨4, ⟨some 80, .q (.load true 2 (.t 8)), none, 0⟩⟩,
⟨5, ⟨some 81, .q (.mov (.t 9)), none, 0⟩⟩,
⟨6, ⟨some 82, .q (.faddr 3 (.t 3)), none, 0⟩⟩,
⟨7, ⟨some 83, .q (.load true 2 (.t 82)), none, 64⟩⟩,
⟨8, ⟨some 84, .e (.callf 100 [(.t 81), (.t 83)]), none, 224⟩⟩,
⟨9, ⟨none, .e (.mapup (.strs 2) (.t 79) (.t 80) (.t 84)), none, 511⟩⟩]))) (
.seq (
.region [Q 4 (.mov (ci 0))]) (
.ret)))))))))))
def a52 : AFunc := ⟨c52, [.tmp 4], false⟩
def c53 : ACode :=
.seq (
.region [M 4 (.box 3 1 (.t 1)),
Q 6 (.mov (.c (.one (dc (.sl [] true))))),
Q 7 (.mov (ci 0))]) (
.seq (
.seq (
.draw [⟨0, ⟨some 16, .q (.mov (.t 0)), none, 0⟩⟩,
⟨1, ⟨some 17, .e (.callf 85 [(.t 16)]), none, 1⟩⟩,
⟨2, ⟨some 18, .q (.un .not (.t 17)), none, 3⟩⟩,
⟨3, ⟨some 19, .q (.mov (.t 18)), none, 7⟩⟩,
⟨4, ⟨some 20, .q (.mov (.t 2)), some (19, false), 15⟩⟩,
⟨5, ⟨some 21, .e (.callf 101 [(.t 20)]), some (19, false), 31⟩⟩,
⟨6, ⟨some 22, .q (.un .not (.t 21)), some (19, false), 63⟩⟩,
⟨7, ⟨some 23, .q (.pick (.t 19) (cb true) (.t 22)), none, 127⟩⟩,
⟨8, ⟨some 24, .q (.mov (.t 23)), none, 255⟩⟩,
⟨9, ⟨some 25, .q (.load false 1 (.t 4)), some (24, false), 511⟩⟩,
⟨10, ⟨some 26, .q (.mov (.t 0)), some (24, false), 511⟩⟩,
⟨11, ⟨some 27, .e (.callf 102 [(.t 26)]), some (24, false), 1535⟩⟩,
⟨12, ⟨some 28, .q (.bin .lss .scalar (.t 25) (.t 27)), some (24, false), 4095⟩⟩,
⟨13, ⟨some 29, .q (.pick (.t 24) (cb true) (.t 28)), none, 8191⟩⟩,
⟨14, ⟨some 30, .q (.mov (.t 29)), none, 16383⟩⟩,
⟨15, ⟨some 31, .q (.load false 1 (.t 4)), some (30, false), 32767⟩⟩,
⟨16, ⟨some 32, .q (.bin .geq .scalar (.t 31) (ci 1099511627776)), some (30, false), 65535⟩⟩,
⟨17, ⟨some 33, .q (.pick (.t 30) (cb true) (.t 32)), none, 131071⟩⟩]) (
.cond (.t 33) (
.seq (
.region [Q 6 (.mov (.c (.one (dc (.sl [] true))))),
Q 7 (.mov (ci 1))]) (
.ret)) (
.skip))) (
.seq (
.region [Q 35 (.mov (.t 0)),
E 36 (.callf 42 [(.t 35), (ci 1099511627775)]),
Q 37 (.mov (.t 2)),
E 38 (.callf 103 [(.t 36), (.t 37)]),
Q 34 (.mov (.t 38)),
Q 39 (.extract 0 (.t 34)),
Q 40 (.extract 1 (.t 34)),
M 8 (.alloc 30 1 [dc (.sl [] true)]),
⟨none, .e (.store 1 (.t 8) (.t 39)), none, 0⟩,
Q 9 (.mov (.t 40))]) (
.seq (
.region [Q 41 (.mkfn (.func 104) 104 [] [(.t 8)]),
M 10 (.alloc 158 1 [dc (.nilf)]),
⟨none, .e (.store 1 (.t 10) (.t 41)), none, 0⟩]) (
.seq (
.region [Q 42 (.mov (.t 0)),
Q 43 (.mkfn (.func 107) 107 [] [(.t 10), (.t 4)]),
E 44 (.callf 86 [(.t 42), (.t 43)]),
Q 11 (.mov (.t 44))]) (
.seq (
.seq (
.region [Q 45 (.mov (.t 11)),
Q 46 (.len .sl (.t 45)),
Q 47 (.mov (ci 0))]) (
.block 0 (
.loop (
.seq (
.region [Q 48 (.bin .lss .scalar (.t 47) (.t 46))]) (
.seq (
.cond (.t 48) (
.skip) (
.exit 0)) (
.seq (
.block 1 (
.seq (
.region [Q 49 (.mov (.t 47)),
Q 50 (.iaddr 5 none (.t 45) (.t 47)),
Q 51 (.load true 5 (.t 50)),
M 13 (.alloc 105 5 [dc (.int .i64 0), dc (.int .i64 0), dc (.int .i64 0), dc (.int .i64 0), dc (.sl [] true)]),
Q 12 (.mov (.t 49)),
⟨none, .e (.store 5 (.t 13) (.t 51)), none, 0⟩]) (
.seq (
.region [Q 52 (.load false 1 (.t 10)),
Q 53 (.load true 5 (.t 13)),
E 54 (.callv (.t 52) [(.t 53)])]) (
.cond (.t 54) (
.region [Q 55 (.mov (.t 11)),
Q 56 (.mov (.t 12)),
Q 57 (.load false 1 (.t 4)),
Q 58 (.iaddr 5 none (.t 55) (.t 56)),
Q 59 (.faddr 0 (.t 58)),
Q 60 (.faddr 1 (.t 59)),
⟨none, .e (.store 1 (.t 60) (.t 57)), none, 0⟩]) (
.skip))))) (
.region [Q 61 (.bin .add .scalar (.t 47) (ci 1)),
Q 47 (.mov (.t 61))]))))))) (
.seq (
.seq (
.region [Q 62 (.mov (.t 9)),
Q 63 (.len .sl (.t 62)),
Q 64 (.mov (ci 0))]) (
.block 2 (
.loop (
.seq (
.region [Q 65 (.bin .lss .scalar (.t 64) (.t 63))]) (
.seq (
.cond (.t 65) (
.skip) (
.exit 2)) (
.seq (
.block 3 (
.seq (
.region [Q 66 (.iaddr 3 none (.t 62) (.t 64)),
Q 67 (.load true 3 (.t 66)),
M 15 (.alloc 98 3 [dc (.int .i64 0), dc (.int .i64 0), dc (.sl [] true)]),
⟨none, .e (.store 3 (.t 15) (.t 67)), none, 0⟩]) (
.region [Q 68 (.mov (.t 11)),
Q 69 (.load false 1 (.t 4)),
Q 70 (.build [dc (.int .i64 0), dc (.int .i64 0)] [(0, 1, (.t 69)), (1, 1, (ci 1099511627776))]),
Q 71 (.load true 3 (.t 15)),
Q 72 (.build [dc (.int .i64 0), dc (.int .i64 0), dc (.int .i64 0), dc (.int .i64 0), dc (.sl [] true)] [(0, 2, (.t 70)), (2, 3, (.t 71))]),
M 73 (.bslice 105 5 1 [dc (.int .i64 0), dc (.int .i64 0), dc (.int .i64 0), dc (.int .i64 0), dc (.sl [] true)] [(0, 5, (.t 72))]),
E 74 (.append 105 5 56 (.t 68) (.t 73)),
Q 11 (.mov (.t 74))]))) (
.region [Q 75 (.bin .add .scalar (.t 64) (ci 1)),
Q 64 (.mov (.t 75))]))))))) (
.seq (
.region [Q 76 (.mov (.t 11)),
E 77 (.callf 108 [(.t 76)])]) (
.seq (
.region [Q 78 (.mov (.t 11)),
Q 6 (.mov (.t 78)),
Q 7 (.mov (ci 0))]) (
.ret)))))))))
def a53 : AFunc := ⟨c53, [.tmp 6, .tmp 7], true⟩
def c54 : ACode :=
.seq (
.seq (
.region [Q 6 (.mov (.t 2)),
Q 7 (.len .sl (.t 6)),
Q 8 (.bin .eql .scalar (.t 7) (ci 0))]) (
.cond (.t 8) (
.seq (
.region [Q 9 (.mov (.t 0)),
Q 10 (.nilck (.t 9)),
Q 11 (.faddr 1 (.t 10)),
Q 12 (.load false 1 (.t 11)),
Q 13 (.mov (.t 1)),
⟨none, .e (.del .str (.t 12) (.t 13)), none, 0⟩]) (
.ret)) (
.skip))) (
.region [Q 14 (.mov (.t 0)),
Q 15 (.nilck (.t 14)),
Q 16 (.faddr 1 (.t 15)),
Q 17 (.load false 1 (.t 16)),
Q 18 (.mov (.t 1)),
Q 19 (.mov (.t 2)),
⟨none, .e (.mapup .str (.t 17) (.t 18) (.t 19)), none, 0⟩])
def a54 : AFunc := ⟨c54, [], false⟩
def c55 : ACode :=
.seq (
.region [Q 2 (.mov (.c (.one (dc (.sl [] true)))))]) (
.seq (
.region [Q 3 (.mov (.c (.one (dc (.sl [] true)))))]) (
.seq (
.seq (
.region [Q 6 (.mov (.t 0)),
M 7 (.range false (.t 6))]) (
.block 0 (
.loop (
.seq (
.region [E 8 (.next false (.t 7)),
Q 9 (.extract 0 (.t 8))]) (
.seq (
.cond (.t 9) (
.skip) (
.exit 0)) (
.block 1 (
.seq (
.region [E 10 (.entry (.t 7)),
Q 11 (.extract 0 (.t 10)),
Q 4 (.mov (.t 11))]) (
.seq (
.region [Q 12 (.mov (.t 3)),
Q 13 (.len .sl (.t 12)),
Q 5 (.mov (.t 13))]) (
.seq (
.block 2 (
.loop (
.seq (
.seq (
.region [Q 14 (.mov (.t 5)),
Q 15 (.bin .gtr .scalar (.t 14) (ci 0)),
Q 16 (.mov (.t 15)),
⟨some 17, .q (.mov (.t 3)), some (16, true), 0⟩,
⟨some 18, .q (.mov (.t 5)), some (16, true), 0⟩,
⟨some 19, .q (.bin .sub .scalar (.t 18) (ci 1)), some (16, true), 0⟩,
⟨some 20, .q (.iaddr 1 none (.t 17) (.t 19)), some (16, true), 0⟩,
⟨some 21, .q (.load false 1 (.t 20)), some (16, true), 0⟩,
⟨some 22, .q (.mov (.t 4)), some (16, true), 0⟩,
⟨some 23, .q (.bin .gtr .scalar (.t 21) (.t 22)), some (16, true), 0⟩,
Q 24 (.pick (.t 16) (.t 23) (cb false))]) (
.cond (.t 24) (
.skip) (
.exit 2))) (
.block 3 (
.region [Q 25 (.mov (.t 5)),
Q 26 (.bin .sub .scalar (.t 25) (ci 1)),
Q 5 (.mov (.t 26))]))))) (
.draw [⟨0, ⟨some 27, .q (.mov (.t 3)), none, 0⟩⟩,
⟨1, ⟨some 28, .q (.mov (.t 5)), none, 0⟩⟩,
⟨2, ⟨some 29, .q (.mov (.t 5)), none, 0⟩⟩,
⟨3, ⟨some 30, .q (.slice 1 (.t 27) none (some (.t 28)) (some (.t 29))), none, 7⟩⟩,
⟨4, ⟨some 31, .q (.mov (.t 4)), none, 0⟩⟩,
⟨5, ⟨some 32, .m (.bslice 9 1 1 [dc (.str [])] [(0, 1, (.t 31))]), none, 16⟩⟩,
⟨6, ⟨some 33, .q (.mov (.t 3)), none, 0⟩⟩,
⟨7, ⟨some 34, .q (.mov (.t 5)), none, 0⟩⟩,
⟨8, ⟨some 35, .q (.slice 1 (.t 33) (some (.t 34)) none none), none, 192⟩⟩,
⟨9, ⟨some 36, .e (.append 9 1 16 (.t 32) (.t 35)), none, 496⟩⟩,
⟨10, ⟨some 37, .e (.append 9 1 16 (.t 30) (.t 36)), none, 1023⟩⟩,
⟨11, ⟨some 3, .q (.mov (.t 37)), none, 2047⟩⟩])))))))))) (
.seq (
.region [Q 38 (.mov (.t 3)),
Q 2 (.mov (.t 38))]) (
.ret))))
def a55 : AFunc := ⟨c55, [.tmp 2], true⟩
def c56 : ACode :=
.seq (
.region [Q 2 (.mov (.c (.one (dc (.sl [] true)))))]) (
.seq (
.region [Q 3 (.mov (.c (.one (dc (.sl [] true)))))]) (
.seq (
.seq (
.region [Q 6 (.mov (.t 0)),
M 7 (.range false (.t 6))]) (
.block 0 (
.loop (
.seq (
.region [E 8 (.next false (.t 7)),
Q 9 (.extract 0 (.t 8))]) (
.seq (
.cond (.t 9) (
.skip) (
.exit 0)) (
.block 1 (
.seq (
.region [E 10 (.entry (.t 7)),
Q 11 (.extract 0 (.t 10)),
Q 4 (.mov (.t 11))]) (
.seq (
.region [Q 12 (.mov (.t 3)),
Q 13 (.len .sl (.t 12)),
Q 5 (.mov (.t 13))]) (
.seq (
.block 2 (
.loop (
.seq (
.seq (
.region [Q 14 (.mov (.t 5)),
Q 15 (.bin .gtr .scalar (.t 14) (ci 0)),
Q 16 (.mov (.t 15)),
⟨some 17, .q (.mov (.t 3)), some (16, true), 0⟩,
⟨some 18, .q (.mov (.t 5)), some (16, true), 0⟩,
⟨some 19, .q (.bin .sub .scalar (.t 18) (ci 1)), some (16, true), 0⟩,
⟨some 20, .q (.iaddr 1 none (.t 17) (.t 19)), some (16, true), 0⟩,
⟨some 21, .q (.load false 1 (.t 20)), some (16, true), 0⟩,
⟨some 22, .q (.mov (.t 4)), some (16, true), 0⟩,
⟨some 23, .q (.bin .gtr .scalar (.t 21) (.t 22)), some (16, true), 0⟩,
Q 24 (.pick (.t 16) (.t 23) (cb false))]) (
.cond (.t 24) (
.skip) (
.exit 2))) (
.block 3 (
.region [Q 25 (.mov (.t 5)),
Q 26 (.bin .sub .scalar (.t 25) (ci 1)),
Q 5 (.mov (.t 26))]))))) (
.draw [⟨0, ⟨some 27, .q (.mov (.t 3)), none, 0⟩⟩,
⟨1, ⟨some 28, .q (.mov (.t 5)), none, 0⟩⟩,
⟨2, ⟨some 29, .q (.mov (.t 5)), none, 0⟩⟩,
⟨3, ⟨some 30, .q (.slice 1 (.t 27) none (some (.t 28)) (some (.t 29))), none, 7⟩⟩,
⟨4, ⟨some 31, .q (.mov (.t 4)), none, 0⟩⟩,
⟨5, ⟨some 32, .m (.bslice 9 1 1 [dc (.str [])] [(0, 1, (.t 31))]), none, 16⟩⟩,
⟨6, ⟨some 33, .q (.mov (.t 3)), none, 0⟩⟩,
⟨7, ⟨some 34, .q (.mov (.t 5)), none, 0⟩⟩,
⟨8, ⟨some 35, .q (.slice 1 (.t 33) (some (.t 34)) none none), none, 192⟩⟩,
⟨9, ⟨some 36, .e (.append 9 1 16 (.t 32) (.t 35)), none, 496⟩⟩,
⟨10, ⟨some 37, .e (.append 9 1 16 (.t 30) (.t 36)), none, 1023⟩⟩,
⟨11, ⟨some 3, .q (.mov (.t 37)), none, 2047⟩⟩])))))))))) (
.seq (
.region [Q 38 (.mov (.t 3)),
Q 2 (.mov (.t 38))]) (
.ret))))
def a56 : AFunc := ⟨c56, [.tmp 2], true⟩
def c58 : ACode :=
.seq (
.region [Q 2 (.mov (cs []))]) (
.seq (
.region [Q 3 (.mov (cs []))]) (
.seq (
.seq (
.region [Q 6 (.mov (.t 0)),
Q 7 (.len .sl (.t 6)),
Q 8 (.mov (ci 0))]) (
.block 0 (
.loop (
.seq (
.region [Q 9 (.bin .lss .scalar (.t 8) (.t 7))]) (
.seq (
.cond (.t 9) (
.skip) (
.exit 0)) (
.seq (
.block 1 (
.seq (
.region [Q 10 (.iaddr 1 none (.t 6) (.t 8)),
Q 11 (.load false 1 (.t 10)),
Q 5 (.mov (.t 11))]) (
.region [Q 12 (.mov (.t 3)),
Q 13 (.mov (.t 5)),
Q 14 (.conv (.int .u64) (.t 13)),
E 15 (.callf 110 [(.t 14)]),
Q 16 (.bin .add .scalar (.t 12) (.t 15)),
Q 3 (.mov (.t 16))]))) (
.region [Q 17 (.bin .add .scalar (.t 8) (ci 1)),
Q 8 (.mov (.t 17))]))))))) (
.seq (
.region [Q 18 (.mov (.t 3)),
Q 2 (.mov (.t 18))]) (
.ret))))
def a58 : AFunc := ⟨c58, [.tmp 2], true⟩
def c59 : ACode :=
.seq (
.region [Q 2 (.mov (cs []))]) (
.seq (
.region [Q 10 (.mov (.t 0)),
Q 11 (.nilck (.t 10)),
Q 12 (.faddr 0 (.t 11)),
Q 13 (.load false 1 (.t 12)),
Q 14 (.len .sl (.t 13)),
M 15 (.bslice 3 1 1 [dc (.int .i64 0)] [(0, 1, (.t 14))]),
E 16 (.callf 58 [(.t 15)]),
Q 3 (.mov (.t 16))]) (
.seq (
.seq (
.region [Q 17 (.mov (.t 0)),
Q 18 (.nilck (.t 17)),
Q 19 (.faddr 0 (.t 18)),
Q 20 (.load false 1 (.t 19)),
Q 21 (.len .sl (.t 20)),
Q 22 (.mov (ci 0))]) (
.block 0 (
.loop (
.seq (
.region [Q 23 (.bin .lss .scalar (.t 22) (.t 21))]) (
.seq (
.cond (.t 23) (
.skip) (
.exit 0)) (
.seq (
.block 1 (
.seq (
.region [Q 24 (.iaddr 4 none (.t 20) (.t 22)),
Q 25 (.load true 4 (.t 24)),
M 5 (.alloc 102 4 [dc (.int .i64 0), dc (.str []), dc (.sl [] true), dc (.int .i64 0)]),
⟨none, .e (.store 4 (.t 5) (.t 25)), none, 0⟩]) (
.draw [⟨0, ⟨some 26, .q (.mov (.t 3)), none, 0⟩⟩,
⟨1, ⟨some 27, .q (.faddr 0 (.t 5)), none, 0⟩⟩,
⟨2, ⟨some 28, .q (.load false 1 (.t 27)), none, 2⟩⟩,
⟨3, ⟨some 29, .m (.bslice 3 1 1 [dc (.int .i64 0)] [(0, 1, (.t 28))]), none, 6⟩⟩,
⟨5, ⟨some 31, .q (.faddr 1 (.t 5)), none, 0⟩⟩,
⟨6, ⟨some 32, .q (.load true 3 (.t 31)), none, 32⟩⟩,
⟨4, ⟨some 30, .e (.callf 58 [(.t 29)]), none, 14⟩⟩,
⟨7, ⟨some 33, .e (.callf 112 [(.t 32)]), none, 126⟩⟩,
⟨8, ⟨some 34, .e (.callf 111 [(.t 33)]), none, 254⟩⟩,
⟨9, ⟨some 35, .q (.bin .add .scalar (.t 30) (.t 34)), none, 510⟩⟩,
⟨10, ⟨some 36, .q (.bin .add .scalar (.t 26) (.t 35)), none, 1023⟩⟩,
⟨11, ⟨some 3, .q (.mov (.t 36)), none, 2047⟩⟩]))) (
.region [Q 37 (.bin .add .scalar (.t 22) (ci 1)),
Q 22 (.mov (.t 37))]))))))) (
.seq (
.region [Q 38 (.mov (.t 3)),
Q 39 (.mov (.t 0)),
Q 40 (.nilck (.t 39)),
Q 41 (.faddr 1 (.t 40)),
Q 42 (.load false 1 (.t 41)),
Q 43 (.len .map (.t 42)),
M 44 (.bslice 3 1 1 [dc (.int .i64 0)] [(0, 1, (.t 43))]),
E 45 (.callf 58 [(.t 44)]),
Q 46 (.bin .add .scalar (.t 38) (.t 45)),
Q 3 (.mov (.t 46))]) (
.seq (
.seq (
.region [Q 47 (.mov (.t 0)),
Q 48 (.nilck (.t 47)),
Q 49 (.faddr 1 (.t 48)),
Q 50 (.load false 1 (.t 49)),
E 51 (.callf 56 [(.t 50)]),
Q 52 (.len .sl (.t 51)),
Q 53 (.mov (ci 0))]) (
.block 2 (
.loop (
.seq (
.region [Q 54 (.bin .lss .scalar (.t 53) (.t 52))]) (
.seq (
.cond (.t 54) (
.skip) (
.exit 2)) (
.seq (
.block 3 (
.seq (
.region [Q 55 (.iaddr 1 none (.t 51) (.t 53)),
Q 56 (.load false 1 (.t 55)),
Q 7 (.mov (.t 56))]) (
.seq (
.draw [⟨0, ⟨some 57, .q (.mov (.t 3)), none, 0⟩⟩,
⟨1, ⟨some 58, .q (.mov (.t 7)), none, 0⟩⟩,
⟨3, ⟨some 60, .q (.mov (.t 0)), none, 0⟩⟩,
⟨4, ⟨some 61, .q (.nilck (.t 60)), none, 8⟩⟩,
⟨5, ⟨some 62, .q (.faddr 1 (.t 61)), none, 24⟩⟩,
⟨6, ⟨some 63, .q (.load false 1 (.t 62)), none, 56⟩⟩,
⟨7, ⟨some 64, .q (.mov (.t 7)), none, 0⟩⟩,
⟨8, ⟨some 65, .q (.lookup .str (.one (dc (.sl [] true))) false (.t 63) (.t 64)), none, 248⟩⟩,
⟨9, ⟨some 66, .q (.len .sl (.t 65)), none, 504⟩⟩,
⟨10, ⟨some 67, .m (.bslice 3 1 1 [dc (.int .i64 0)] [(0, 1, (.t 66))]), none, 1016⟩⟩,
⟨2, ⟨some 59, .e (.callf 111 [(.t 58)]), none, 2⟩⟩,
⟨11, ⟨some 68, .e (.callf 58 [(.t 67)]), none, 2046⟩⟩,
⟨12, ⟨some 69, .q (.bin .add .scalar (.t 59) (.t 68)), none, 4094⟩⟩,
⟨13, ⟨some 70, .q (.bin .add .scalar (.t 57) (.t 69)), none, 8191⟩⟩,
⟨14, ⟨some 3, .q (.mov (.t 70)), none, 16383⟩⟩]) (
.seq (
.region [Q 71 (.mov (.t 0)),
Q 72 (.nilck (.t 71)),
Q 73 (.faddr 1 (.t 72)),
Q 74 (.load false 1 (.t 73)),
Q 75 (.mov (.t 7)),
Q 76 (.lookup .str (.one (dc (.sl [] true))) false (.t 74) (.t 75)),
Q 77 (.len .sl (.t 76)),
Q 78 (.mov (ci 0))]) (
.block 4 (
.loop (
.seq (
.region [Q 79 (.bin .lss .scalar (.t 78) (.t 77))]) (
.seq (
.cond (.t 79) (
.skip) (
.exit 4)) (
.seq (
.block 5 (
.seq (
.region [Q 80 (.iaddr 5 none (.t 76) (.t 78)),
Q 81 (.load true 5 (.t 80)),
M 9 (.alloc 105 5 [dc (.int .i64 0), dc (.int .i64 0), dc (.int .i64 0), dc (.int .i64 0), dc (.sl [] true)]),
⟨none, .e (.store 5 (.t 9) (.t 81)), none, 0⟩]) (
.draw [⟨0, ⟨some 82, .q (.mov (.t 3)), none, 0⟩⟩,
⟨1, ⟨some 83, .q (.faddr 0 (.t 9)), none, 0⟩⟩,
⟨2, ⟨some 84, .q (.faddr 0 (.t 83)), none, 2⟩⟩,
⟨3, ⟨some 85, .q (.load false 1 (.t 84)), none, 6⟩⟩,
⟨4, ⟨some 86, .q (.faddr 0 (.t 9)), none, 0⟩⟩,
⟨5, ⟨some 87, .q (.faddr 1 (.t 86)), none, 16⟩⟩,
⟨6, ⟨some 88, .q (.load false 1 (.t 87)), none, 48⟩⟩,
⟨7, ⟨some 89, .q (.faddr 2 (.t 9)), none, 0⟩⟩,
⟨8, ⟨some 90, .q (.faddr 0 (.t 89)), none, 128⟩⟩,
⟨9, ⟨some 91, .q (.faddr 0 (.t 90)), none, 384⟩⟩,
⟨10, ⟨some 92, .q (.load false 1 (.t 91)), none, 896⟩⟩,
⟨11, ⟨some 93, .q (.faddr 2 (.t 9)), none, 0⟩⟩,
⟨12, ⟨some 94, .q (.faddr 0 (.t 93)), none, 2048⟩⟩,
⟨13, ⟨some 95, .q (.faddr 1 (.t 94)), none, 6144⟩⟩,
⟨14, ⟨some 96, .q (.load false 1 (.t 95)), none, 14336⟩⟩,
⟨15, ⟨some 97, .m (.bslice 3 1 4 [dc (.int .i64 0), dc (.int .i64 0), dc (.int .i64 0), dc (.int .i64 0)] [(0, 1, (.t 85)), (1, 1, (.t 88)), (2, 1, (.t 92)), (3, 1, (.t 96))]), none, 32766⟩⟩,
⟨17, ⟨some 99, .q (.faddr 2 (.t 9)), none, 0⟩⟩,
⟨18, ⟨some 100, .q (.faddr 2 (.t 99)), none, 131072⟩⟩,
⟨19, ⟨some 101, .q (.load false 1 (.t 100)), none, 393216⟩⟩,
⟨16, ⟨some 98, .e (.callf 58 [(.t 97)]), none, 65534⟩⟩,
⟨20, ⟨some 102, .e (.callf 113 [(.t 101)]), none, 1048574⟩⟩,
⟨21, ⟨some 103, .q (.bin .add .scalar (.t 98) (.t 102)), none, 2097150⟩⟩,
⟨22, ⟨some 104, .q (.bin .add .scalar (.t 82) (.t 103)), none, 4194303⟩⟩,
⟨23, ⟨some 3, .q (.mov (.t 104)), none, 8388607⟩⟩]))) (
.region [Q 105 (.bin .add .scalar (.t 78) (ci 1)),
Q 78 (.mov (.t 105))])))))))))) (
.region [Q 106 (.bin .add .scalar (.t 53) (ci 1)),
Q 53 (.mov (.t 106))]))))))) (
.seq (
.region [Q 107 (.mov (.t 3)),
Q 2 (.mov (.t 107))]) (
.ret))))))
def a59 : AFunc := ⟨c59, [.tmp 2], true⟩
def c60 : ACode :=
.seq (
.region [Q 2 (.mov (.c (.one (dc (.nilp)))))]) (
.seq (
.region [Q 6 (.mov (.t 0)),
Q 7 (.nilck (.t 6)),
Q 8 (.faddr 0 (.t 7)),
Q 9 (.load false 1 (.t 8)),
E 10 (.append 102 4 56 (.c (.one (dc (.sl [] true)))) (.t 9)),
M 11 (.mkmap .str),
Q 12 (.build [dc (.sl [] true), dc (.nilm)] [(0, 1, (.t 10)), (1, 1, (.t 11))]),
M 13 (.box 92 2 (.t 12)),
Q 3 (.mov (.t 13))]) (
.seq (
.seq (
.region [Q 14 (.mov (.t 0)),
Q 15 (.nilck (.t 14)),
Q 16 (.faddr 1 (.t 15)),
Q 17 (.load false 1 (.t 16)),
M 18 (.range false (.t 17))]) (
.block 0 (
.loop (
.seq (
.region [E 19 (.next false (.t 18)),
Q 20 (.extract 0 (.t 19))]) (
.seq (
.cond (.t 20) (
.skip) (
.exit 0)) (
.block 1 (
.seq (
.region [E 21 (.entry (.t 18)),
Q 22 (.extract 0 (.t 21)),
Q 23 (.extract 1 (.t 21)),
Q 4 (.mov (.t 22)),
Q 5 (.mov (.t 23))]) (
.region [Q 24 (.mov (.t 3)),
Q 25 (.nilck (.t 24)),
Q 26 (.faddr 1 (.t 25)),
Q 27 (.load false 1 (.t 26)),
Q 28 (.mov (.t 4)),
Q 29 (.mov (.t 5)),
⟨none, .e (.mapup .str (.t 27) (.t 28) (.t 29)), none, 0⟩])))))))) (
.seq (
.region [Q 30 (.mov (.t 3)),
Q 2 (.mov (.t 30))]) (
.ret))))
def a60 : AFunc := ⟨c60, [.tmp 2], false⟩
def c61 : ACode :=
.seq (
.region [Q 0 (.mov (.c (.one (dc (.nilp)))))]) (
.seq (
.region [M 1 (.mkmap .str),
Q 2 (.build [dc (.int .i64 0), dc (.int .i64 0), dc (.int .i64 0), dc (.nilm)] [(1, 1, (ci (-1))), (3, 1, (.t 1))]),
M 3 (.box 96 4 (.t 2)),
Q 0 (.mov (.t 3))]) (
.ret))
def a61 : AFunc := ⟨c61, [.tmp 0], false⟩
def c62 : ACode :=
.seq (
.region [M 4 (.alloc 116 8 [dc (.int .i64 0), dc (.str []), dc (.sl [] true), dc (.int .i64 0), dc (.int .i64 0), dc (.str []), dc (.sl [] true), dc (.int .i64 0)])]) (
.seq (
.region [Q 6 (.mov (.t 0)),
Q 7 (.build [dc (.str []), dc (.int .i64 0), dc (.bool false)] [(0, 1, (cs [105, 100])), (1, 1, (ci 2)), (2, 1, (cb true))]),
Q 8 (.build [dc (.str []), dc (.int .i64 0), dc (.bool false)] [(0, 1, (cs [110, 97, 109, 101])), (1, 1, (ci 5))]),
M 9 (.bslice 185 3 2 [dc (.str []), dc (.int .i64 0), dc (.bool false), dc (.str []), dc (.int .i64 0), dc (.bool false)] [(0, 3, (.t 7)), (3, 3, (.t 8))]),
Q 10 (.build [dc (.str []), dc (.sl [] true), dc (.int .i64 0)] [(0, 1, (.t 6)), (1, 1, (.t 9)), (2, 1, (ci 1))]),
M 5 (.alloc 36 3 [dc (.str []), dc (.sl [] true), dc (.int .i64 0)]),
⟨none, .e (.store 3 (.t 5) (.t 10)), none, 0⟩]) (
.seq (
.seq (
.region [Q 11 (.mov (.t 1))]) (
.cond (.t 11) (
.region [Q 12 (.faddr 1 (.t 5)),
Q 13 (.load false 1 (.t 12)),
Q 14 (.build [dc (.str []), dc (.int .i64 0), dc (.bool false)] [(0, 1, (cs [115, 105, 122, 101])), (1, 1, (ci 3))]),
M 15 (.bslice 185 3 1 [dc (.str []), dc (.int .i64 0), dc (.bool false)] [(0, 3, (.t 14))]),
E 16 (.append 185 3 32 (.t 13) (.t 15)),
Q 17 (.faddr 1 (.t 5)),
⟨none, .e (.store 1 (.t 17) (.t 16)), none, 0⟩]) (
.skip))) (
.seq (
.region [Q 18 (.mov (.t 0)),
Q 19 (.load true 3 (.t 5)),
Q 20 (.build [dc (.int .i64 0), dc (.str []), dc (.sl [] true), dc (.int .i64 0), dc (.int .i64 0), dc (.str []), dc (.sl [] true), dc (.int .i64 0)] [(0, 1, (ci 3)), (1, 1, (.t 18)), (5, 3, (.t 19))]),
⟨none, .e (.store 8 (.t 4) (.t 20)), none, 0⟩]) (
.ret))))
def a62 : AFunc := ⟨c62, [.cell 4 true 8], true⟩
def c64 : ACode :=
.seq (
.region [Q 2 (.mov (.c (.one (dc (.nilp))))),
Q 3 (.mov (ci 0))]) (
.seq (
.region [Q 8 (.mov (.t 0)),
E 9 (.callf 114 [(.t 8)]),
Q 10 (.build [dc (.nilp)] [(0, 1, (.t 9))]),
M 4 (.alloc 189 1 [dc (.nilp)]),
⟨none, .e (.store 1 (.t 4) (.t 10)), none, 0⟩]) (
.seq (
.region [E 11 (.callf 61 []),
M 5 (.alloc 29 1 [dc (.nilp)]),
⟨none, .e (.store 1 (.t 5) (.t 11)), none, 0⟩]) (
.seq (
.draw [⟨0, ⟨some 12, .q (.load false 1 (.t 5)), none, 0⟩⟩,
⟨1, ⟨some 13, .q (.load true 1 (.t 4)), none, 0⟩⟩,
⟨2, ⟨some 14, .e (.callf 115 [(.t 13)]), none, 2⟩⟩,
⟨3, ⟨some 15, .q (.nilck (.t 12)), none, 7⟩⟩,
⟨4, ⟨some 16, .q (.faddr 0 (.t 15)), none, 15⟩⟩,
⟨5, ⟨none, .e (.store 1 (.t 16) (.t 14)), none, 31⟩⟩]) (
.seq (
.draw [⟨0, ⟨some 17, .q (.load false 1 (.t 5)), none, 0⟩⟩,
⟨1, ⟨some 18, .q (.load true 1 (.t 4)), none, 0⟩⟩,
⟨2, ⟨some 19, .e (.callf 115 [(.t 18)]), none, 2⟩⟩,
⟨3, ⟨some 20, .q (.bin .sub .scalar (.t 19) (ci 1)), none, 6⟩⟩,
⟨4, ⟨some 21, .q (.nilck (.t 17)), none, 15⟩⟩,
⟨5, ⟨some 22, .q (.faddr 1 (.t 21)), none, 31⟩⟩,
⟨6, ⟨none, .e (.store 1 (.t 22) (.t 20)), none, 63⟩⟩]) (
.seq (
.draw [⟨0, ⟨some 23, .q (.load false 1 (.t 5)), none, 0⟩⟩,
⟨1, ⟨some 24, .q (.load true 1 (.t 4)), none, 0⟩⟩,
⟨2, ⟨some 25, .e (.callf 115 [(.t 24)]), none, 2⟩⟩,
⟨3, ⟨some 26, .q (.nilck (.t 23)), none, 7⟩⟩,
⟨4, ⟨some 27, .q (.faddr 2 (.t 26)), none, 15⟩⟩,
⟨5, ⟨none, .e (.store 1 (.t 27) (.t 25)), none, 31⟩⟩]) (
.seq (
.draw [⟨0, ⟨some 28, .q (.load false 1 (.t 5)), none, 0⟩⟩,
⟨1, ⟨some 29, .q (.nilck (.t 28)), none, 1⟩⟩,
⟨2, ⟨some 30, .q (.faddr 0 (.t 29)), none, 3⟩⟩,
⟨3, ⟨some 31, .q (.load false 1 (.t 30)), none, 7⟩⟩,
⟨4, ⟨some 32, .q (.bin .leq .scalar (.t 31) (ci 1099511627776)), none, 15⟩⟩,
⟨5, ⟨some 33, .q (.mov (.t 32)), none, 31⟩⟩,
⟨6, ⟨some 34, .q (.load false 1 (.t 5)), some (33, true), 63⟩⟩,
⟨7, ⟨some 35, .q (.nilck (.t 34)), some (33, true), 127⟩⟩,
⟨8, ⟨some 36, .q (.faddr 1 (.t 35)), some (33, true), 255⟩⟩,
⟨9, ⟨some 37, .q (.load false 1 (.t 36)), some (33, true), 511⟩⟩,
⟨10, ⟨some 38, .q (.bin .lss .scalar (.t 37) (ci 1099511627776)), some (33, true), 1023⟩⟩,
⟨11, ⟨some 39, .q (.pick (.t 33) (.t 38) (cb false)), none, 2047⟩⟩,
⟨12, ⟨some 40, .q (.mov (.t 39)), none, 4095⟩⟩,
⟨13, ⟨some 41, .q (.load false 1 (.t 5)), some (40, true), 8191⟩⟩,
⟨14, ⟨some 42, .q (.nilck (.t 41)), some (40, true), 16383⟩⟩,
⟨15, ⟨some 43, .q (.faddr 2 (.t 42)), some (40, true), 32767⟩⟩,
⟨16, ⟨some 44, .q (.load false 1 (.t 43)), some (40, true), 65535⟩⟩,
⟨17, ⟨some 45, .q (.load false 1 (.t 5)), some (40, true), 8191⟩⟩,
⟨18, ⟨some 46, .q (.nilck (.t 45)), some (40, true), 139263⟩⟩,
⟨19, ⟨some 47, .q (.faddr 1 (.t 46)), some (40, true), 401407⟩⟩,
⟨20, ⟨some 48, .q (.load false 1 (.t 47)), some (40, true), 925695⟩⟩,
⟨21, ⟨some 49, .q (.mnmx true (ci 0) (.t 48)), some (40, true), 1974271⟩⟩,
⟨22, ⟨some 50, .q (.bin .leq .scalar (.t 44) (.t 49)), some (40, true), 4194303⟩⟩,
⟨23, ⟨some 51, .q (.pick (.t 40) (.t 50) (cb false)), none, 8388607⟩⟩,
⟨24, ⟨some 6, .m (.alloc 4 1 [dc (.bool false)]), none, 0⟩⟩,
⟨25, ⟨none, .e (.store 1 (.t 6) (.t 51)), none, 33554431⟩⟩]) (
.seq (
.seq (
.region [Q 52 (.load true 1 (.t 4)),
Q 53 (.mkfn (.func 116) 116 [(.t 52)] [])]) (
.block 0 (
.rfunc (.t 53) [] (
.skip) (
.block 1 (
.seq (
.region [Q 54 (.load true 1 (.t 4)),
E 55 (.callf 117 [(.t 54)]),
Q 7 (.mov (.t 55))]) (
.seq (
.seq (
.region [Q 56 (.mov (.t 7)),
Q 57 (.load false 1 (.t 5)),
Q 58 (.nilck (.t 57)),
Q 59 (.faddr 1 (.t 58)),
Q 60 (.load false 1 (.t 59)),
E 61 (.callf 118 [(.t 56), (.t 60)]),
Q 62 (.un .not (.t 61))]) (
.cond (.t 62) (
.seq (
.region [⟨none, .e (.store 1 (.t 6) (cb false)), none, 0⟩]) (
.exit 0)) (
.skip))) (
.draw [⟨0, ⟨some 63, .q (.load false 1 (.t 5)), none, 0⟩⟩,
⟨1, ⟨some 64, .q (.nilck (.t 63)), none, 1⟩⟩,
⟨2, ⟨some 65, .q (.faddr 3 (.t 64)), none, 3⟩⟩,
⟨3, ⟨some 66, .q (.load false 1 (.t 65)), none, 7⟩⟩,
⟨4, ⟨some 67, .q (.mov (.t 7)), none, 0⟩⟩,
⟨7, ⟨some 70, .q (.mov (.t 7)), none, 0⟩⟩,
⟨5, ⟨some 68, .e (.callf 46 [(.t 67)]), none, 16⟩⟩,
⟨6, ⟨some 69, .q (.field false 0 1 (.t 68)), none, 48⟩⟩,
⟨8, ⟨none, .e (.mapup .str (.t 66) (.t 69) (.t 70)), none, 255⟩⟩]))))))) (
.seq (
.seq (
.region [Q 71 (.load false 1 (.t 6)),
Q 72 (.un .not (.t 71)),
Q 73 (.mov (.t 72)),
⟨some 74, .q (.faddr 0 (.t 4)), some (73, false), 0⟩,
⟨some 75, .q (.load false 1 (.t 74)), some (73, false), 0⟩,
⟨some 76, .e (.callf 119 [(.t 75)]), some (73, false), 0⟩,
⟨some 77, .q (.bin .neq .scalar (.t 76) (ci 0)), some (73, false), 0⟩,
Q 78 (.pick (.t 73) (cb true) (.t 77)),
Q 79 (.mov (.t 78)),
⟨some 80, .q (.load false 1 (.t 5)), some (79, false), 0⟩,
⟨some 81, .e (.callf 18 [(.t 80)]), some (79, false), 0⟩,
⟨some 82, .q (.mov (.t 0)), some (79, false), 0⟩,
⟨some 83, .q (.bin .neq .scalar (.t 81) (.t 82)), some (79, false), 0⟩,
Q 84 (.pick (.t 79) (cb true) (.t 83))]) (
.cond (.t 84) (
.seq (
.region [Q 2 (.mov (.c (.one (dc (.nilp))))),
Q 3 (.mov (ci 7))]) (
.ret)) (
.skip))) (
.seq (
.region [Q 85 (.load false 1 (.t 5)),
Q 2 (.mov (.t 85)),
Q 3 (.mov (ci 0))]) (
.ret))))))))))
def a64 : AFunc := ⟨c64, [.tmp 2, .tmp 3], false⟩
def c66 : ACode :=
.seq (
.region [Q 2 (.mov (.c (.one (dc (.nilp)))))]) (
.seq (
.seq (
.region [Q 3 (.mov (.t 0)),
Q 4 (.bin .eql .ptr (.t 3) (.c (.one (dc (.nilp)))))]) (
.cond (.t 4) (
.seq (
.region [Q 2 (.mov (.c (.one (dc (.nilp)))))]) (
.ret)) (
.skip))) (
.seq (
.region [Q 5 (.mov (.t 0)),
Q 6 (.nilck (.t 5)),
Q 7 (.faddr 2 (.t 6)),
Q 8 (.load false 1 (.t 7)),
E 9 (.callf 19 [(.t 8)]),
Q 2 (.mov (.t 9))]) (
.ret)))
def a66 : AFunc := ⟨c66, [.tmp 2], false⟩
def c67 : ACode :=
.seq (
.region [Q 2 (.mov (cb false))]) (
.seq (
.region [Q 3 (.mov (.t 0)),
Q 4 (.bin .neq .ptr (.t 3) (.c (.one (dc (.nilp))))),
Q 5 (.mov (.t 4)),
⟨some 6, .q (.mov (.t 0)), some (5, true), 0⟩,
⟨some 7, .q (.nilck (.t 6)), some (5, true), 0⟩,
⟨some 8, .q (.faddr 5 (.t 7)), some (5, true), 0⟩,
⟨some 9, .q (.load false 1 (.t 8)), some (5, true), 0⟩,
Q 10 (.pick (.t 5) (.t 9) (cb false)),
Q 2 (.mov (.t 10))]) (
.ret))
def a67 : AFunc := ⟨c67, [.tmp 2], false⟩
def c68 : ACode :=
.seq (
.region [Q 2 (.mov (cb false))]) (
.seq (
.region [Q 3 (.mov (.t 0)),
Q 4 (.bin .neq .ptr (.t 3) (.c (.one (dc (.nilp))))),
Q 5 (.mov (.t 4)),
⟨some 6, .q (.mov (.t 0)), some (5, true), 0⟩,
⟨some 7, .q (.nilck (.t 6)), some (5, true), 0⟩,
⟨some 8, .q (.faddr 0 (.t 7)), some (5, true), 0⟩,
⟨some 9, .q (.load false 1 (.t 8)), some (5, true), 0⟩,
⟨some 10, .q (.bin .neq .ptr (.t 9) (.c (.one (dc (.nilp))))), some (5, true), 0⟩,
Q 11 (.pick (.t 5) (.t 10) (cb false)),
Q 2 (.mov (.t 11))]) (
.ret))
def a68 : AFunc := ⟨c68, [.tmp 2], false⟩
def c69 : ACode :=
.seq (
.region [Q 2 (.mov (cs [])),
Q 3 (.mov (ci 0)),
Q 4 (.mov (ci 0))]) (
.seq (
.seq (
.region [Q 11 (.mov (.t 0)),
Q 12 (.len .str (.t 11)),
Q 13 (.bin .lss .scalar (.t 12) (ci 4))]) (
.cond (.t 13) (
.seq (
.region [Q 2 (.mov (cs [])),
Q 3 (.mov (ci 0)),
Q 4 (.mov (ci 8))]) (
.ret)) (
.skip))) (
.seq (
.region [Q 5 (.mov (ci 0))]) (
.seq (
.seq (
.region [Q 14 (.mov (.t 0)),
Q 15 (.sslice (.t 14) none (some (ci 4))),
M 16 (.s2b 5 (.t 15)),
Q 17 (.len .sl (.t 16)),
Q 18 (.mov (ci 0))]) (
.block 0 (
.loop (
.seq (
.region [Q 19 (.bin .lss .scalar (.t 18) (.t 17))]) (
.seq (
.cond (.t 19) (
.skip) (
.exit 0)) (
.seq (
.block 1 (
.seq (
.region [Q 20 (.iaddr 1 none (.t 16) (.t 18)),
Q 21 (.load false 1 (.t 20)),
Q 7 (.mov (.t 21))]) (
.region [Q 22 (.mov (.t 5)),
Q 23 (.bin .shl .scalar (.t 22) (.c (.one (dc (.int .u64 8))))),
Q 24 (.mov (.t 7)),
Q 25 (.conv (.int .i64) (.t 24)),
Q 26 (.bin .or .scalar (.t 23) (.t 25)),
Q 5 (.mov (.t 26))]))) (
.region [Q 27 (.bin .add .scalar (.t 18) (ci 1)),
Q 18 (.mov (.t 27))]))))))) (
.seq (
.region [Q 28 (.mov (.t 5)),
Q 29 (.bin .add .scalar (.t 28) (ci 8)),
Q 8 (.mov (.t 29))]) (
.seq (
.block 2 (
.seq (
.region [Q 31 (.mov (.t 5)),
Q 32 (.bin .gtr .scalar (.t 31) (ci 100000)),
Q 30 (.mov (.t 32))]) (
.cond (.t 30) (
.seq (
.region [Q 2 (.mov (cs [])),
Q 3 (.mov (ci 0)),
Q 4 (.mov (ci 19))]) (
.ret)) (
.seq (
.region [Q 34 (.mov (.t 0)),
Q 35 (.len .str (.t 34)),
Q 36 (.mov (.t 8)),
Q 37 (.bin .lss .scalar (.t 35) (.t 36)),
Q 33 (.mov (.t 37))]) (
.cond (.t 33) (
.seq (
.region [Q 2 (.mov (cs [])),
Q 3 (.mov (ci 0)),
Q 4 (.mov (ci 8))]) (
.ret)) (
.skip)))))) (
.seq (
.region [Q 39 (.mov (.t 0)),
Q 40 (.mov (.t 8)),
Q 41 (.sslice (.t 39) (some (ci 4)) (some (.t 40))),
E 42 (.callf 120 [(.t 41)]),
Q 38 (.mov (.t 42)),
Q 43 (.extract 0 (.t 38)),
Q 44 (.extract 1 (.t 38)),
Q 9 (.mov (.t 43)),
Q 10 (.mov (.t 44))]) (
.seq (
.seq (
.region [Q 45 (.mov (.t 10)),
Q 46 (.un .not (.t 45))]) (
.cond (.t 46) (
.seq (
.region [Q 2 (.mov (cs [])),
Q 3 (.mov (ci 0)),
Q 4 (.mov (ci 9))]) (
.ret)) (
.skip))) (
.seq (
.region [Q 47 (.mov (.t 9)),
Q 48 (.mov (.t 8)),
Q 2 (.mov (.t 47)),
Q 3 (.mov (.t 48)),
Q 4 (.mov (ci 0))]) (
.ret)))))))))
def a69 : AFunc := ⟨c69, [.tmp 2, .tmp 3, .tmp 4], true⟩
def c70 : ACode :=
.seq (
.region [M 4 (.alloc 137 2 [dc (.int .i64 0), dc (.int .i64 0)])]) (
.seq (
.region [Q 8 (.mov (.t 1)),
E 9 (.callf 121 [(.t 8)]),
Q 7 (.mov (.t 9)),
Q 10 (.extract 0 (.t 7)),
Q 11 (.extract 1 (.t 7)),
M 5 (.alloc 24 3 [dc (.int .i64 0), dc (.int .i64 0), dc (.sl [] true)]),
⟨none, .e (.store 3 (.t 5) (.t 10)), none, 0⟩,
Q 6 (.mov (.t 11))]) (
.seq (
.block 0 (
.seq (
.region [Q 13 (.mov (.t 6)),
Q 14 (.bin .neq .scalar (.t 13) (ci 0)),
Q 12 (.mov (.t 14))]) (
.cond (.t 12) (
.seq (
.region [Q 15 (.mov (.t 6)),
Q 16 (.build [dc (.int .i64 0), dc (.int .i64 0)] [(1, 1, (.t 15))]),
⟨none, .e (.store 2 (.t 4) (.t 16)), none, 0⟩]) (
.ret)) (
.seq (
.draw [⟨0, ⟨some 18, .q (.faddr 0 (.t 5)), none, 0⟩⟩,
⟨1, ⟨some 19, .q (.load false 1 (.t 18)), none, 1⟩⟩,
⟨2, ⟨some 20, .q (.mov (.t 0)), none, 0⟩⟩,
⟨3, ⟨some 21, .e (.callf 24 [(.t 20)]), none, 4⟩⟩,
⟨4, ⟨some 22, .q (.bin .leq .scalar (.t 19) (.t 21)), none, 15⟩⟩,
⟨5, ⟨some 17, .q (.mov (.t 22)), none, 31⟩⟩]) (
.cond (.t 17) (
.seq (
.region [Q 23 (.mov (.t 0)),
Q 24 (.nilck (.t 23)),
Q 25 (.faddr 4 (.t 24)),
Q 26 (.load false 1 (.t 25)),
Q 27 (.bin .add .scalar (.t 26) (ci 1)),
Q 28 (.nilck (.t 23)),
Q 29 (.faddr 4 (.t 28)),
⟨none, .e (.store 1 (.t 29) (.t 27)), none, 0⟩]) (
.seq (
.region [Q 30 (.faddr 0 (.t 5)),
Q 31 (.load false 1 (.t 30)),
Q 32 (.build [dc (.int .i64 0), dc (.int .i64 0)] [(0, 1, (.t 31))]),
⟨none, .e (.store 2 (.t 4) (.t 32)), none, 0⟩]) (
.ret))) (
.skip)))))) (
.seq (
.draw [⟨0, ⟨some 33, .q (.faddr 0 (.t 5)), none, 0⟩⟩,
⟨1, ⟨some 34, .q (.load false 1 (.t 33)), none, 1⟩⟩,
⟨2, ⟨some 35, .q (.mov (.t 0)), none, 0⟩⟩,
⟨3, ⟨some 36, .q (.load true 3 (.t 5)), none, 0⟩⟩,
⟨4, ⟨some 37, .e (.callf 122 [(.t 35), (.t 36)]), none, 12⟩⟩,
⟨5, ⟨some 38, .q (.build [dc (.int .i64 0), dc (.int .i64 0)] [(0, 1, (.t 34)), (1, 1, (.t 37))]), none, 31⟩⟩,
⟨6, ⟨none, .e (.store 2 (.t 4) (.t 38)), none, 63⟩⟩]) (
.ret))))
def a70 : AFunc := ⟨c70, [.cell 4 true 2], false⟩
def c71 : ACode :=
.seq (
.region [Q 4 (.mov (.c (.one (dc (.nilp))))),
Q 5 (.mov (.c (.one (dc (.nilp))))),
Q 6 (.mov (.c (.one (dc (.nilp)))))]) (
.seq (
.region [Q 14 (.mov (.t 0)),
E 15 (.callf 123 [(.t 14)]),
Q 13 (.mov (.t 15)),
Q 16 (.extract 0 (.t 13)),
Q 17 (.extract 1 (.t 13)),
Q 7 (.mov (.t 16)),
Q 8 (.mov (.t 17))]) (
.seq (
.seq (
.region [Q 18 (.mov (.t 8)),
Q 19 (.bin .neq .scalar (.t 18) (ci 0)),
Q 20 (.mov (.t 19)),
⟨some 21, .q (.mov (.t 7)), some (20, false), 0⟩,
⟨some 22, .q (.bin .eql .ptr (.t 21) (.c (.one (dc (.nilp))))), some (20, false), 0⟩,
Q 23 (.pick (.t 20) (cb true) (.t 22))]) (
.cond (.t 23) (
.seq (
.region [Q 4 (.mov (.c (.one (dc (.nilp))))),
Q 5 (.mov (.c (.one (dc (.nilp))))),
Q 6 (.mov (.c (.one (dc (.nilp)))))]) (
.ret)) (
.skip))) (
.seq (
.region [Q 25 (.mov (.t 7)),
Q 26 (.mov (.t 1)),
E 27 (.callf 81 [(.t 25), (.t 26)]),
Q 24 (.mov (.t 27)),
Q 28 (.extract 0 (.t 24)),
Q 29 (.extract 1 (.t 24)),
Q 9 (.mov (.t 28)),
Q 10 (.mov (.t 29))]) (
.seq (
.seq (
.region [Q 30 (.mov (.t 10)),
Q 31 (.bin .neq .scalar (.t 30) (ci 0)),
Q 32 (.mov (.t 31)),
⟨some 33, .q (.mov (.t 9)), some (32, false), 0⟩,
⟨some 34, .q (.bin .eql .ptr (.t 33) (.c (.one (dc (.nilp))))), some (32, false), 0⟩,
Q 35 (.pick (.t 32) (cb true) (.t 34))]) (
.cond (.t 35) (
.seq (
.region [Q 4 (.mov (.c (.one (dc (.nilp))))),
Q 5 (.mov (.c (.one (dc (.nilp))))),
Q 6 (.mov (.c (.one (dc (.nilp)))))]) (
.ret)) (
.skip))) (
.seq (
.region [Q 37 (.mov (.t 9)),
E 38 (.callf 21 [(.t 37)]),
Q 36 (.mov (.t 38)),
Q 39 (.extract 0 (.t 36)),
Q 40 (.extract 1 (.t 36)),
Q 11 (.mov (.t 39)),
Q 12 (.mov (.t 40))]) (
.seq (
.seq (
.region [Q 41 (.mov (.t 12)),
Q 42 (.bin .neq .scalar (.t 41) (ci 0))]) (
.cond (.t 42) (
.seq (
.region [Q 4 (.mov (.c (.one (dc (.nilp))))),
Q 5 (.mov (.c (.one (dc (.nilp))))),
Q 6 (.mov (.c (.one (dc (.nilp)))))]) (
.ret)) (
.skip))) (
.seq (
.region [Q 43 (.mov (.t 7)),
Q 44 (.mov (.t 9)),
Q 45 (.mov (.t 11)),
Q 4 (.mov (.t 43)),
Q 5 (.mov (.t 44)),
Q 6 (.mov (.t 45))]) (
.ret))))))))
def a71 : AFunc := ⟨c71, [.tmp 4, .tmp 5, .tmp 6], false⟩
def c72 : ACode :=
.seq (
.region [M 1 (.box 24 3 (.t 0)),
Q 2 (.mov (cs []))]) (
.seq (
.region [Q 4 (.load true 3 (.t 1)),
E 5 (.callf 124 [(.t 4)]),
Q 3 (.mov (.t 5))]) (
.seq (
.seq (
.region [Q 6 (.mov (.t 3)),
Q 7 (.bin .eql .scalar (.t 6) (cs []))]) (
.cond (.t 7) (
.seq (
.region [Q 2 (.mov (cs []))]) (
.ret)) (
.skip))) (
.seq (
.region [Q 8 (.mov (.t 3)),
Q 9 (.len .str (.t 8)),
E 10 (.callf 125 [(.t 9)]),
Q 11 (.mov (.t 3)),
E 12 (.callf 126 [(.t 11)]),
Q 13 (.bin .add .scalar (.t 10) (.t 12)),
Q 2 (.mov (.t 13))]) (
.ret))))
def a72 : AFunc := ⟨c72, [.tmp 2], true⟩
def c73 : ACode :=
.seq (
.region [Q 4 (.mov (cb false))]) (
.seq (
.seq (
.region [Q 6 (.mov (.t 0)),
Q 7 (.len .sl (.t 6)),
Q 8 (.mov (.t 1)),
Q 9 (.len .sl (.t 8)),
Q 10 (.bin .neq .scalar (.t 7) (.t 9))]) (
.cond (.t 10) (
.seq (
.region [Q 4 (.mov (cb false))]) (
.ret)) (
.skip))) (
.seq (
.seq (
.region [Q 5 (.mov (ci 0))]) (
.block 0 (
.loop (
.seq (
.seq (
.region [Q 11 (.mov (.t 5)),
Q 12 (.mov (.t 0)),
Q 13 (.len .sl (.t 12)),
Q 14 (.bin .lss .scalar (.t 11) (.t 13))]) (
.cond (.t 14) (
.skip) (
.exit 0))) (
.seq (
.block 1 (
.seq (
.draw [⟨0, ⟨some 17, .q (.mov (.t 0)), none, 0⟩⟩,
⟨1, ⟨some 18, .q (.mov (.t 5)), none, 0⟩⟩,
⟨2, ⟨some 19, .q (.iaddr 2 none (.t 17) (.t 18)), none, 3⟩⟩,
⟨3, ⟨some 20, .q (.load true 2 (.t 19)), none, 7⟩⟩,
⟨4, ⟨some 21, .q (.mov (.t 1)), none, 0⟩⟩,
⟨5, ⟨some 22, .q (.mov (.t 5)), none, 0⟩⟩,
⟨6, ⟨some 23, .q (.iaddr 2 none (.t 21) (.t 22)), none, 48⟩⟩,
⟨7, ⟨some 24, .q (.load true 2 (.t 23)), none, 112⟩⟩,
⟨8, ⟨some 25, .q (.bin .neq (.agg [.int, .int]) (.t 20) (.t 24)), none, 255⟩⟩]) (
.cond (.t 25) (
.seq (
.region [Q 4 (.mov (cb false))]) (
.ret)) (
.skip)))) (
.region [Q 15 (.mov (.t 5)),
Q 16 (.bin .add .scalar (.t 15) (ci 1)),
Q 5 (.mov (.t 16))])))))) (
.seq (
.region [Q 4 (.mov (cb true))]) (
.ret))))
def a73 : AFunc := ⟨c73, [.tmp 4], true⟩
def c74 : ACode :=
.seq (
.region [Q 2 (.mov (.c (.one (dc (.sl [] true)))))]) (
.seq (
.region [Q 3 (.mov (.c (.one (dc (.sl [] true)))))]) (
.seq (
.seq (
.region [Q 4 (.mov (ci 0))]) (
.block 0 (
.loop (
.seq (
.seq (
.region [Q 5 (.mov (.t 4)),
Q 6 (.mov (.t 0)),
Q 7 (.len .sl (.t 6)),
Q 8 (.bin .lss .scalar (.t 5) (.t 7))]) (
.cond (.t 8) (
.skip) (
.exit 0))) (
.seq (
.block 1 (
.draw [⟨0, ⟨some 11, .q (.mov (.t 3)), none, 0⟩⟩,
⟨1, ⟨some 12, .q (.mov (.t 0)), none, 0⟩⟩,
⟨2, ⟨some 13, .q (.mov (.t 4)), none, 0⟩⟩,
⟨3, ⟨some 14, .q (.iaddr 2 none (.t 12) (.t 13)), none, 6⟩⟩,
⟨4, ⟨some 15, .q (.faddr 0 (.t 14)), none, 14⟩⟩,
⟨5, ⟨some 16, .q (.load false 1 (.t 15)), none, 30⟩⟩,
⟨6, ⟨some 17, .q (.mov (.t 0)), none, 0⟩⟩,
⟨7, ⟨some 18, .q (.mov (.t 4)), none, 0⟩⟩,
⟨8, ⟨some 19, .q (.iaddr 2 none (.t 17) (.t 18)), none, 192⟩⟩,
⟨9, ⟨some 20, .q (.faddr 1 (.t 19)), none, 448⟩⟩,
⟨10, ⟨some 21, .q (.load false 1 (.t 20)), none, 960⟩⟩,
⟨11, ⟨some 22, .q (.build [dc (.int .i64 0), dc (.int .i64 0)] [(0, 1, (.t 16)), (1, 1, (.t 21))]), none, 2046⟩⟩,
⟨12, ⟨some 23, .m (.bslice 145 2 1 [dc (.int .i64 0), dc (.int .i64 0)] [(0, 2, (.t 22))]), none, 4094⟩⟩,
⟨13, ⟨some 24, .e (.append 145 2 16 (.t 11) (.t 23)), none, 8191⟩⟩,
⟨14, ⟨some 3, .q (.mov (.t 24)), none, 16383⟩⟩])) (
.region [Q 9 (.mov (.t 4)),
Q 10 (.bin .add .scalar (.t 9) (ci 1)),
Q 4 (.mov (.t 10))])))))) (
.seq (
.region [Q 25 (.mov (.t 3)),
Q 2 (.mov (.t 25))]) (
.ret))))
def a74 : AFunc := ⟨c74, [.tmp 2], true⟩
def c81 : ACode :=
.seq (
.region [Q 4 (.mov (.c (.one (dc (.nilp))))),
Q 5 (.mov (ci 0))]) (
.seq (
.region [Q 15 (.mov (.t 0)),
Q 16 (.mov (.t 1)),
E 17 (.callf 136 [(.t 15), (.t 16)]),
Q 14 (.mov (.t 17)),
Q 18 (.extract 0 (.t 14)),
Q 19 (.extract 1 (.t 14)),
Q 6 (.mov (.t 18)),
Q 7 (.mov (.t 19))]) (
.seq (
.seq (
.region [Q 20 (.mov (.t 7)),
Q 21 (.bin .neq .scalar (.t 20) (ci 0))]) (
.cond (.t 21) (
.seq (
.region [Q 22 (.mov (.t 7)),
Q 4 (.mov (.c (.one (dc (.nilp))))),
Q 5 (.mov (.t 22))]) (
.ret)) (
.skip))) (
.seq (
.region [Q 24 (.mov (.t 6)),
E 25 (.callf 137 [(.t 24)]),
Q 23 (.mov (.t 25)),
Q 26 (.extract 0 (.t 23)),
Q 27 (.extract 1 (.t 23)),
Q 8 (.mov (.t 26)),
Q 7 (.mov (.t 27))]) (
.seq (
.seq (
.region [Q 28 (.mov (.t 7)),
Q 29 (.bin .neq .scalar (.t 28) (ci 0))]) (
.cond (.t 29) (
.seq (
.region [Q 30 (.mov (.t 7)),
Q 4 (.mov (.c (.one (dc (.nilp))))),
Q 5 (.mov (.t 30))]) (
.ret)) (
.skip))) (
.seq (
.seq (
.region [Q 31 (.mov (.t 6)),
E 32 (.callf 138 [(.t 31)]),
Q 9 (.mov (.t 32))]) (
.seq (
.region [Q 33 (.mov (.t 9)),
Q 34 (.bin .neq .scalar (.t 33) (ci 0))]) (
.cond (.t 34) (
.seq (
.region [Q 35 (.mov (.t 9)),
Q 4 (.mov (.c (.one (dc (.nilp))))),
Q 5 (.mov (.t 35))]) (
.ret)) (
.skip)))) (
.seq (
.region [Q 36 (.mov (.t 6)),
Q 37 (.mov (.t 8)),
E 38 (.callf 61 []),
Q 39 (.build [dc (.nilp), dc (.nilp), dc (.nilp), dc (.int .i64 0), dc (.sl [] true), dc (.bool false)] [(0, 1, (.t 36)), (1, 1, (.t 37)), (2, 1, (.t 38))]),
M 40 (.box 65 6 (.t 39)),
Q 10 (.mov (.t 40))]) (
.seq (
.region [Q 42 (.mov (.t 8)),
E 43 (.callf 139 [(.t 42)]),
Q 41 (.mov (.t 43)),
Q 44 (.extract 0 (.t 41)),
Q 45 (.extract 1 (.t 41)),
Q 11 (.mov (.t 44)),
Q 7 (.mov (.t 45))]) (
.seq (
.seq (
.region [Q 46 (.mov (.t 7))]) (
.block 0 (
.seq (
.region [Q 49 (.bin .eql .scalar (.t 46) (ci 4)),
Q 48 (.mov (.t 49))]) (
.cond (.t 48) (
.seq (
.region [Q 50 (.mov (.t 10)),
Q 4 (.mov (.t 50)),
Q 5 (.mov (ci 0))]) (
.ret)) (
.seq (
.region [Q 52 (.bin .eql .scalar (.t 46) (ci 0)),
Q 51 (.mov (.t 52))]) (
.cond (.t 51) (
.skip) (
.seq (
.region [Q 47 (.mov (.t 7)),
Q 4 (.mov (.c (.one (dc (.nilp))))),
Q 5 (.mov (.t 47))]) (
.ret)))))))) (
.seq (
.region [Q 54 (.mov (.t 11)),
E 55 (.callf 140 [(.t 54)]),
Q 53 (.mov (.t 55)),
Q 56 (.extract 0 (.t 53)),
Q 57 (.extract 1 (.t 53)),
M 12 (.alloc 63 2 [dc (.int .i64 0), dc (.sl [] true)]),
⟨none, .e (.store 2 (.t 12) (.t 56)), none, 0⟩,
Q 13 (.mov (.t 57))]) (
.seq (
.region [Q 58 (.mov (.t 10)),
Q 59 (.load true 2 (.t 12)),
Q 60 (.nilck (.t 58)),
Q 61 (.faddr 3 (.t 60)),
⟨none, .e (.store 2 (.t 61) (.t 59)), none, 0⟩]) (
.seq (
.seq (
.region [Q 62 (.mov (.t 13)),
Q 63 (.un .not (.t 62)),
Q 64 (.mov (.t 63)),
⟨some 65, .q (.mov (.t 10)), some (64, false), 0⟩,
⟨some 66, .e (.callf 141 [(.t 65)]), some (64, false), 0⟩,
⟨some 67, .q (.un .not (.t 66)), some (64, false), 0⟩,
Q 68 (.pick (.t 64) (cb true) (.t 67))]) (
.cond (.t 68) (
.seq (
.region [Q 4 (.mov (.c (.one (dc (.nilp))))),
Q 5 (.mov (ci 7))]) (
.ret)) (
.skip))) (
.seq (
.region [Q 69 (.mov (.t 10)),
Q 4 (.mov (.t 69)),
Q 5 (.mov (ci 0))]) (
.ret)))))))))))))
def a81 : AFunc := ⟨c81, [.tmp 4, .tmp 5], false⟩
def c85 : ACode :=
.seq (
.region [Q 2 (.mov (cb false))]) (
.seq (
.seq (
.region [Q 7 (.mov (.t 0)),
Q 8 (.len .sl (.t 7)),
Q 9 (.mov (ci 0))]) (
.block 0 (
.loop (
.seq (
.region [Q 10 (.bin .lss .scalar (.t 9) (.t 8))]) (
.seq (
.cond (.t 10) (
.skip) (
.exit 0)) (
.seq (
.block 1 (
.seq (
.region [Q 11 (.mov (.t 9)),
Q 12 (.iaddr 5 none (.t 7) (.t 9)),
Q 13 (.load true 5 (.t 12)),
M 4 (.alloc 105 5 [dc (.int .i64 0), dc (.int .i64 0), dc (.int .i64 0), dc (.int .i64 0), dc (.sl [] true)]),
Q 3 (.mov (.t 11)),
⟨none, .e (.store 5 (.t 4) (.t 13)), none, 0⟩]) (
.seq (
.seq (
.draw [⟨0, ⟨some 14, .q (.faddr 0 (.t 4)), none, 0⟩⟩,
⟨1, ⟨some 15, .q (.load true 2 (.t 14)), none, 1⟩⟩,
⟨2, ⟨some 16, .e (.callf 45 [(.t 15)]), none, 3⟩⟩,
⟨3, ⟨some 17, .q (.un .not (.t 16)), none, 7⟩⟩,
⟨4, ⟨some 18, .q (.mov (.t 17)), none, 15⟩⟩,
⟨5, ⟨some 19, .q (.faddr 2 (.t 4)), some (18, false), 31⟩⟩,
⟨6, ⟨some 20, .q (.load true 3 (.t 19)), some (18, false), 63⟩⟩,
⟨7, ⟨some 21, .m (.bslice 98 3 1 [dc (.int .i64 0), dc (.int .i64 0), dc (.sl [] true)] [(0, 3, (.t 20))]), some (18, false), 127⟩⟩,
⟨8, ⟨some 22, .e (.callf 101 [(.t 21)]), some (18, false), 255⟩⟩,
⟨9, ⟨some 23, .q (.un .not (.t 22)), some (18, false), 511⟩⟩,
⟨10, ⟨some 24, .q (.pick (.t 18) (cb true) (.t 23)), none, 1023⟩⟩,
⟨11, ⟨some 25, .q (.mov (.t 24)), none, 2047⟩⟩,
⟨12, ⟨some 26, .q (.mov (.t 3)), some (25, false), 4095⟩⟩,
⟨13, ⟨some 27, .q (.bin .gtr .scalar (.t 26) (ci 0)), some (25, false), 8191⟩⟩,
⟨14, ⟨some 28, .q (.mov (.t 27)), some (25, false), 16383⟩⟩,
⟨15, ⟨some 29, .q (.load true 5 (.t 4)), some (28, true), 32767⟩⟩,
⟨16, ⟨some 30, .q (.mov (.t 0)), some (28, true), 32767⟩⟩,
⟨17, ⟨some 31, .q (.mov (.t 3)), some (28, true), 32767⟩⟩,
⟨18, ⟨some 32, .q (.bin .sub .scalar (.t 31) (ci 1)), some (28, true), 163839⟩⟩,
⟨19, ⟨some 33, .q (.iaddr 5 none (.t 30) (.t 32)), some (28, true), 491519⟩⟩,
⟨20, ⟨some 34, .q (.load true 5 (.t 33)), some (28, true), 1015807⟩⟩,
⟨21, ⟨some 35, .e (.callf 142 [(.t 29), (.t 34)]), some (28, true), 2097151⟩⟩,
⟨22, ⟨some 36, .q (.pick (.t 28) (.t 35) (cb false)), some (25, false), 4194303⟩⟩,
⟨23, ⟨some 37, .q (.pick (.t 25) (cb true) (.t 36)), none, 8388607⟩⟩]) (
.cond (.t 37) (
.seq (
.region [Q 2 (.mov (cb false))]) (
.ret)) (
.skip))) (
.seq (
.region [Q 38 (.mov (.t 0)),
Q 39 (.mov (.t 3)),
Q 40 (.slice 5 (.t 38) none (some (.t 39)) none),
Q 41 (.len .sl (.t 40)),
Q 42 (.mov (ci 0))]) (
.block 2 (
.loop (
.seq (
.region [Q 43 (.bin .lss .scalar (.t 42) (.t 41))]) (
.seq (
.cond (.t 43) (
.skip) (
.exit 2)) (
.seq (
.block 3 (
.seq (
.region [Q 44 (.iaddr 5 none (.t 40) (.t 42)),
Q 45 (.load true 5 (.t 44)),
M 6 (.alloc 105 5 [dc (.int .i64 0), dc (.int .i64 0), dc (.int .i64 0), dc (.int .i64 0), dc (.sl [] true)]),
⟨none, .e (.store 5 (.t 6) (.t 45)), none, 0⟩]) (
.seq (
.region [Q 46 (.load true 5 (.t 4)),
Q 47 (.load true 5 (.t 6)),
E 48 (.callf 143 [(.t 46), (.t 47)])]) (
.cond (.t 48) (
.seq (
.region [Q 2 (.mov (cb false))]) (
.ret)) (
.skip))))) (
.region [Q 49 (.bin .add .scalar (.t 42) (ci 1)),
Q 42 (.mov (.t 49))])))))))))) (
.region [Q 50 (.bin .add .scalar (.t 9) (ci 1)),
Q 9 (.mov (.t 50))]))))))) (
.seq (
.region [Q 2 (.mov (cb true))]) (
.ret)))
def a85 : AFunc := ⟨c85, [.tmp 2], true⟩
def c86 : ACode :=
.seq (
.region [Q 4 (.mov (.c (.one (dc (.sl [] true)))))]) (
.seq (
.region [Q 5 (.mov (.c (.one (dc (.sl [] true)))))]) (
.seq (
.seq (
.region [Q 8 (.mov (.t 0)),
Q 9 (.len .sl (.t 8)),
Q 10 (.mov (ci 0))]) (
.block 0 (
.loop (
.seq (
.region [Q 11 (.bin .lss .scalar (.t 10) (.t 9))]) (
.seq (
.cond (.t 11) (
.skip) (
.exit 0)) (
.seq (
.block 1 (
.seq (
.region [Q 12 (.iaddr 5 none (.t 8) (.t 10)),
Q 13 (.load true 5 (.t 12)),
M 7 (.alloc 105 5 [dc (.int .i64 0), dc (.int .i64 0), dc (.int .i64 0), dc (.int .i64 0), dc (.sl [] true)]),
⟨none, .e (.store 5 (.t 7) (.t 13)), none, 0⟩]) (
.seq (
.region [Q 14 (.mov (.t 1)),
Q 15 (.load true 5 (.t 7)),
E 16 (.callv (.t 14) [(.t 15)])]) (
.cond (.t 16) (
.seq (
.region [Q 17 (.faddr 2 (.t 7)),
Q 18 (.faddr 2 (.t 17)),
Q 19 (.load false 1 (.t 18)),
E 20 (.append 128 4 40 (.c (.one (dc (.sl [] true)))) (.t 19)),
Q 21 (.faddr 2 (.t 7)),
Q 22 (.faddr 2 (.t 21)),
⟨none, .e (.store 1 (.t 22) (.t 20)), none, 0⟩]) (
.region [Q 23 (.mov (.t 5)),
Q 24 (.load true 5 (.t 7)),
M 25 (.bslice 105 5 1 [dc (.int .i64 0), dc (.int .i64 0), dc (.int .i64 0), dc (.int .i64 0), dc (.sl [] true)] [(0, 5, (.t 24))]),
E 26 (.append 105 5 56 (.t 23) (.t 25)),
Q 5 (.mov (.t 26))])) (
.skip))))) (
.region [Q 27 (.bin .add .scalar (.t 10) (ci 1)),
Q 10 (.mov (.t 27))]))))))) (
.seq (
.region [Q 28 (.mov (.t 5)),
Q 4 (.mov (.t 28))]) (
.ret))))
def a86 : AFunc := ⟨c86, [.tmp 4], false⟩
def c87 : ACode :=
.seq (
.region [M 2 (.box 105 5 (.t 0)),
Q 3 (.mov (cb false))]) (
.seq (
.region [Q 4 (.faddr 0 (.t 2)),
Q 5 (.load true 2 (.t 4)),
Q 6 (.load false 1 (.t 1)),
E 7 (.callf 88 [(.t 5), (.t 6)]),
Q 3 (.mov (.t 7))]) (
.ret))
def a87 : AFunc := ⟨c87, [.tmp 3], true⟩
def c88 : ACode :=
.seq (
.region [M 2 (.box 26 2 (.t 0)),
Q 4 (.mov (cb false))]) (
.seq (
.region [Q 5 (.load true 2 (.t 2)),
E 6 (.callf 45 [(.t 5)]),
Q 7 (.mov (.t 6)),
⟨some 8, .q (.faddr 0 (.t 2)), some (7, true), 0⟩,
⟨some 9, .q (.load false 1 (.t 8)), some (7, true), 0⟩,
⟨some 10, .q (.mov (.t 1)), some (7, true), 0⟩,
⟨some 11, .q (.bin .leq .scalar (.t 9) (.t 10)), some (7, true), 0⟩,
Q 12 (.pick (.t 7) (.t 11) (cb false)),
Q 13 (.mov (.t 12)),
⟨some 14, .q (.mov (.t 1)), some (13, true), 0⟩,
⟨some 15, .q (.faddr 1 (.t 2)), some (13, true), 0⟩,
⟨some 16, .q (.load false 1 (.t 15)), some (13, true), 0⟩,
⟨some 17, .q (.bin .lss .scalar (.t 14) (.t 16)), some (13, true), 0⟩,
Q 18 (.pick (.t 13) (.t 17) (cb false)),
Q 4 (.mov (.t 18))]) (
.ret))
def a88 : AFunc := ⟨c88, [.tmp 4], true⟩
def c89 : ACode :=
.seq (
.region [M 2 (.box 36 3 (.t 0)),
Q 4 (.mov (.c (.one (dc (.sl [] true))))),
Q 5 (.mov (ci 0))]) (
.seq (
.block 0 (
.seq (
.region [Q 9 (.load true 3 (.t 2)),
E 10 (.callf 144 [(.t 9)]),
Q 11 (.un .not (.t 10)),
Q 8 (.mov (.t 11))]) (
.cond (.t 8) (
.seq (
.region [Q 4 (.mov (.c (.one (dc (.sl [] true))))),
Q 5 (.mov (ci 11))]) (
.ret)) (
.seq (
.region [Q 13 (.mov (.t 1)),
Q 14 (.len .sl (.t 13)),
Q 15 (.faddr 1 (.t 2)),
Q 16 (.load false 1 (.t 15)),
Q 17 (.len .sl (.t 16)),
Q 18 (.bin .gtr .scalar (.t 14) (.t 17)),
Q 12 (.mov (.t 18))]) (
.cond (.t 12) (
.seq (
.region [Q 4 (.mov (.c (.one (dc (.sl [] true))))),
Q 5 (.mov (ci 10))]) (
.ret)) (
.skip)))))) (
.seq (
.region [Q 19 (.faddr 1 (.t 2)),
Q 20 (.load false 1 (.t 19)),
Q 21 (.len .sl (.t 20)),
M 22 (.mkslice 128 4 40 [dc (.int .i64 0), dc (.int .i64 0), dc (.int .u64 0), dc (.str [])] (.t 21) (.t 21)),
Q 6 (.mov (.t 22))]) (
.seq (
.region [Q 23 (.mov (.t 6)),
Q 24 (.mov (.t 1)),
E 25 (.copy 4 (.t 23) (.t 24))]) (
.seq (
.seq (
.region [Q 26 (.load true 3 (.t 2)),
Q 27 (.mov (.t 6)),
E 28 (.callf 145 [(.t 26), (.t 27)]),
Q 7 (.mov (.t 28))]) (
.seq (
.region [Q 29 (.mov (.t 7)),
Q 30 (.bin .neq .scalar (.t 29) (ci 0))]) (
.cond (.t 30) (
.seq (
.region [Q 31 (.mov (.t 7)),
Q 4 (.mov (.c (.one (dc (.sl [] true))))),
Q 5 (.mov (.t 31))]) (
.ret)) (
.skip)))) (
.seq (
.region [Q 32 (.mov (.t 6)),
Q 4 (.mov (.t 32)),
Q 5 (.mov (ci 0))]) (
.ret))))))
def a89 : AFunc := ⟨c89, [.tmp 4, .tmp 5], true⟩
def c91 : ACode :=
.seq (
.region [Q 4 (.mov (cb false))]) (
.seq (
.seq (
.region [Q 6 (.mov (.t 0)),
Q 7 (.len .sl (.t 6)),
Q 8 (.mov (.t 1)),
Q 9 (.len .sl (.t 8)),
Q 10 (.bin .neq .scalar (.t 7) (.t 9))]) (
.cond (.t 10) (
.seq (
.region [Q 4 (.mov (cb false))]) (
.ret)) (
.skip))) (
.seq (
.seq (
.region [Q 11 (.mov (.t 0)),
Q 12 (.len .sl (.t 11)),
Q 13 (.mov (ci 0))]) (
.block 0 (
.loop (
.seq (
.region [Q 14 (.bin .lss .scalar (.t 13) (.t 12))]) (
.seq (
.cond (.t 14) (
.skip) (
.exit 0)) (
.seq (
.block 1 (
.seq (
.region [Q 15 (.mov (.t 13)),
Q 5 (.mov (.t 15))]) (
.seq (
.draw [⟨0, ⟨some 16, .q (.mov (.t 0)), none, 0⟩⟩,
⟨1, ⟨some 17, .q (.mov (.t 5)), none, 0⟩⟩,
⟨2, ⟨some 18, .q (.iaddr 3 none (.t 16) (.t 17)), none, 3⟩⟩,
⟨3, ⟨some 19, .q (.faddr 0 (.t 18)), none, 7⟩⟩,
⟨4, ⟨some 20, .q (.load true 2 (.t 19)), none, 15⟩⟩,
⟨5, ⟨some 21, .q (.mov (.t 1)), none, 0⟩⟩,
⟨6, ⟨some 22, .q (.mov (.t 5)), none, 0⟩⟩,
⟨7, ⟨some 23, .q (.iaddr 3 none (.t 21) (.t 22)), none, 96⟩⟩,
⟨8, ⟨some 24, .q (.faddr 0 (.t 23)), none, 224⟩⟩,
⟨9, ⟨some 25, .q (.load true 2 (.t 24)), none, 480⟩⟩,
⟨10, ⟨some 26, .q (.bin .neq (.agg [.int, .int]) (.t 20) (.t 25)), none, 1023⟩⟩,
⟨11, ⟨some 27, .q (.mov (.t 26)), none, 2047⟩⟩,
⟨12, ⟨some 28, .q (.mov (.t 0)), some (27, false), 4095⟩⟩,
⟨13, ⟨some 29, .q (.mov (.t 5)), some (27, false), 4095⟩⟩,
⟨14, ⟨some 30, .q (.iaddr 3 none (.t 28) (.t 29)), some (27, false), 16383⟩⟩,
⟨15, ⟨some 31, .q (.faddr 2 (.t 30)), some (27, false), 32767⟩⟩,
⟨16, ⟨some 32, .q (.load false 1 (.t 31)), some (27, false), 65535⟩⟩,
⟨17, ⟨some 33, .q (.mov (.t 1)), some (27, false), 4095⟩⟩,
⟨18, ⟨some 34, .q (.mov (.t 5)), some (27, false), 4095⟩⟩,
⟨19, ⟨some 35, .q (.iaddr 3 none (.t 33) (.t 34)), some (27, false), 397311⟩⟩,
⟨20, ⟨some 36, .q (.faddr 2 (.t 35)), some (27, false), 921599⟩⟩,
⟨21, ⟨some 37, .q (.load false 1 (.t 36)), some (27, false), 1970175⟩⟩,
⟨22, ⟨some 38, .e (.callf 146 [(.t 32), (.t 37)]), some (27, false), 4194303⟩⟩,
⟨23, ⟨some 39, .q (.un .not (.t 38)), some (27, false), 8388607⟩⟩,
⟨24, ⟨some 40, .q (.pick (.t 27) (cb true) (.t 39)), none, 16777215⟩⟩]) (
.cond (.t 40) (
.seq (
.region [Q 4 (.mov (cb false))]) (
.ret)) (
.skip))))) (
.region [Q 41 (.bin .add .scalar (.t 13) (ci 1)),
Q 13 (.mov (.t 41))]))))))) (
.seq (
.region [Q 4 (.mov (cb true))]) (
.ret))))
def a91 : AFunc := ⟨c91, [.tmp 4], true⟩
def c96 : ACode :=
.seq (
.region [M 1 (.box 24 3 (.t 0)),
Q 2 (.mov (cb false))]) (
.seq (
.seq (
.region [Q 5 (.faddr 2 (.t 1)),
Q 6 (.load false 1 (.t 5)),
Q 7 (.len .sl (.t 6)),
Q 8 (.mov (ci 0))]) (
.block 0 (
.loop (
.seq (
.region [Q 9 (.bin .lss .scalar (.t 8) (.t 7))]) (
.seq (
.cond (.t 9) (
.skip) (
.exit 0)) (
.seq (
.block 1 (
.seq (
.region [Q 10 (.iaddr 8 none (.t 6) (.t 8)),
Q 11 (.load true 8 (.t 10)),
M 4 (.alloc 116 8 [dc (.int .i64 0), dc (.str []), dc (.sl [] true), dc (.int .i64 0), dc (.int .i64 0), dc (.str []), dc (.sl [] true), dc (.int .i64 0)]),
⟨none, .e (.store 8 (.t 4) (.t 11)), none, 0⟩]) (
.seq (
.region [Q 12 (.load true 8 (.t 4)),
E 13 (.callf 149 [(.t 12)]),
Q 14 (.un .not (.t 13))]) (
.cond (.t 14) (
.seq (
.region [Q 2 (.mov (cb false))]) (
.ret)) (
.skip))))) (
.region [Q 15 (.bin .add .scalar (.t 8) (ci 1)),
Q 8 (.mov (.t 15))]))))))) (
.seq (
.region [Q 16 (.faddr 0 (.t 1)),
Q 17 (.load false 1 (.t 16)),
Q 18 (.bin .geq .scalar (.t 17) (ci 1)),
Q 19 (.mov (.t 18)),
⟨some 20, .q (.faddr 0 (.t 1)), some (19, true), 0⟩,
⟨some 21, .q (.load false 1 (.t 20)), some (19, true), 0⟩,
⟨some 22, .q (.bin .leq .scalar (.t 21) (ci 1099511627776)), some (19, true), 0⟩,
Q 23 (.pick (.t 19) (.t 22) (cb false)),
Q 24 (.mov (.t 23)),
⟨some 25, .q (.faddr 1 (.t 1)), some (24, true), 0⟩,
⟨some 26, .q (.load false 1 (.t 25)), some (24, true), 0⟩,
⟨some 27, .q (.bin .geq .scalar (.t 26) (ci 0)), some (24, true), 0⟩,
Q 28 (.pick (.t 24) (.t 27) (cb false)),
Q 29 (.mov (.t 28)),
⟨some 30, .q (.faddr 1 (.t 1)), some (29, true), 0⟩,
⟨some 31, .q (.load false 1 (.t 30)), some (29, true), 0⟩,
⟨some 32, .q (.bin .lss .scalar (.t 31) (ci 1099511627776)), some (29, true), 0⟩,
Q 33 (.pick (.t 29) (.t 32) (cb false)),
Q 34 (.mov (.t 33)),
⟨some 35, .q (.faddr 2 (.t 1)), some (34, true), 0⟩,
⟨some 36, .q (.load false 1 (.t 35)), some (34, true), 0⟩,
⟨some 37, .q (.len .sl (.t 36)), some (34, true), 0⟩,
⟨some 38, .q (.bin .leq .scalar (.t 37) (ci 100)), some (34, true), 0⟩,
Q 39 (.pick (.t 34) (.t 38) (cb false)),
Q 2 (.mov (.t 39))]) (
.ret)))
def a96 : AFunc := ⟨c96, [.tmp 2], true⟩
def c97 : ACode :=
.seq (
.region [M 3 (.box 36 3 (.t 1)),
Q 4 (.mov (ci 0))]) (
.seq (
.draw [⟨0, ⟨some 7, .q (.mov (.t 0)), none, 0⟩⟩,
⟨1, ⟨some 8, .q (.nilck (.t 7)), none, 1⟩⟩,
⟨2, ⟨some 9, .q (.faddr 0 (.t 8)), none, 3⟩⟩,
⟨3, ⟨some 10, .q (.load false 1 (.t 9)), none, 7⟩⟩,
⟨4, ⟨some 11, .q (.nilck (.t 10)), none, 15⟩⟩,
⟨5, ⟨some 12, .q (.faddr 3 (.t 11)), none, 31⟩⟩,
⟨6, ⟨some 13, .q (.load false 1 (.t 12)), none, 63⟩⟩,
⟨7, ⟨some 14, .q (.faddr 0 (.t 3)), none, 0⟩⟩,
⟨8, ⟨some 15, .q (.load false 1 (.t 14)), none, 128⟩⟩,
⟨9, ⟨some 16, .q (.lookup .str (.one (dc (.nilp))) false (.t 13) (.t 15)), none, 511⟩⟩,
⟨10, ⟨some 5, .q (.mov (.t 16)), none, 1023⟩⟩]) (
.seq (
.region [Q 17 (.faddr 1 (.t 3)),
Q 18 (.load false 1 (.t 17)),
E 19 (.append 185 3 32 (.c (.one (dc (.sl [] true)))) (.t 18)),
Q 20 (.faddr 1 (.t 3)),
⟨none, .e (.store 1 (.t 20) (.t 19)), none, 0⟩]) (
.seq (
.draw [⟨0, ⟨some 21, .q (.mov (.t 0)), none, 0⟩⟩,
⟨1, ⟨some 22, .q (.nilck (.t 21)), none, 1⟩⟩,
⟨2, ⟨some 23, .q (.faddr 1 (.t 22)), none, 3⟩⟩,
⟨3, ⟨some 24, .q (.load false 1 (.t 23)), none, 7⟩⟩,
⟨4, ⟨some 25, .q (.load true 3 (.t 3)), none, 0⟩⟩,
⟨5, ⟨some 26, .q (.build [dc (.int .i64 0), dc (.str []), dc (.sl [] true), dc (.int .i64 0)] [(0, 1, (.t 24)), (1, 3, (.t 25))]), none, 31⟩⟩,
⟨6, ⟨some 6, .m (.alloc 102 4 [dc (.int .i64 0), dc (.str []), dc (.sl [] true), dc (.int .i64 0)]), none, 0⟩⟩,
⟨7, ⟨none, .e (.store 4 (.t 6) (.t 26)), none, 127⟩⟩]) (
.seq (
.block 0 (
.seq (
.region [Q 38 (.mov (.t 5)),
Q 39 (.bin .eql .ptr (.t 38) (.c (.one (dc (.nilp))))),
Q 37 (.mov (.t 39))]) (
.cond (.t 37) (
.draw [⟨0, ⟨some 40, .q (.mov (.t 0)), none, 0⟩⟩,
⟨1, ⟨some 41, .q (.nilck (.t 40)), none, 1⟩⟩,
⟨2, ⟨some 42, .q (.faddr 0 (.t 41)), none, 3⟩⟩,
⟨3, ⟨some 43, .q (.load false 1 (.t 42)), none, 7⟩⟩,
⟨4, ⟨some 44, .q (.nilck (.t 43)), none, 15⟩⟩,
⟨5, ⟨some 45, .q (.faddr 3 (.t 44)), none, 31⟩⟩,
⟨6, ⟨some 46, .q (.load false 1 (.t 45)), none, 63⟩⟩,
⟨7, ⟨some 47, .q (.faddr 0 (.t 3)), none, 0⟩⟩,
⟨8, ⟨some 48, .q (.load false 1 (.t 47)), none, 128⟩⟩,
⟨9, ⟨some 49, .q (.load true 4 (.t 6)), none, 0⟩⟩,
⟨10, ⟨some 50, .m (.bslice 102 4 1 [dc (.int .i64 0), dc (.str []), dc (.sl [] true), dc (.int .i64 0)] [(0, 4, (.t 49))]), none, 512⟩⟩,
⟨11, ⟨some 51, .m (.mkmap .str), none, 0⟩⟩,
⟨12, ⟨some 52, .q (.build [dc (.sl [] true), dc (.nilm)] [(0, 1, (.t 50)), (1, 1, (.t 51))]), none, 3584⟩⟩,
⟨13, ⟨some 53, .m (.box 92 2 (.t 52)), none, 7680⟩⟩,
⟨14, ⟨none, .e (.mapup .str (.t 46) (.t 48) (.t 53)), none, 16383⟩⟩]) (
.seq (
.draw [⟨0, ⟨some 55, .q (.mov (.t 5)), none, 0⟩⟩,
⟨2, ⟨some 57, .q (.load true 3 (.t 3)), none, 0⟩⟩,
⟨1, ⟨some 56, .e (.callf 46 [(.t 55)]), none, 1⟩⟩,
⟨3, ⟨some 58, .e (.callf 150 [(.t 56), (.t 57)]), none, 7⟩⟩,
⟨4, ⟨some 59, .q (.un .not (.t 58)), none, 15⟩⟩,
⟨5, ⟨some 54, .q (.mov (.t 59)), none, 31⟩⟩]) (
.cond (.t 54) (
.seq (
.region [Q 4 (.mov (ci 11))]) (
.ret)) (
.seq (
.draw [⟨0, ⟨some 61, .q (.mov (.t 5)), none, 0⟩⟩,
⟨1, ⟨some 62, .q (.nilck (.t 61)), none, 1⟩⟩,
⟨2, ⟨some 63, .q (.faddr 0 (.t 62)), none, 3⟩⟩,
⟨3, ⟨some 64, .q (.load false 1 (.t 63)), none, 7⟩⟩,
⟨4, ⟨some 65, .q (.mov (.t 5)), none, 0⟩⟩,
⟨5, ⟨some 66, .q (.nilck (.t 65)), none, 16⟩⟩,
⟨6, ⟨some 67, .q (.faddr 0 (.t 66)), none, 48⟩⟩,
⟨7, ⟨some 68, .q (.load false 1 (.t 67)), none, 112⟩⟩,
⟨8, ⟨some 69, .q (.len .sl (.t 68)), none, 240⟩⟩,
⟨9, ⟨some 70, .q (.bin .sub .scalar (.t 69) (ci 1)), none, 496⟩⟩,
⟨10, ⟨some 71, .q (.iaddr 4 none (.t 64) (.t 70)), none, 1023⟩⟩,
⟨11, ⟨some 72, .q (.faddr 0 (.t 71)), none, 2047⟩⟩,
⟨12, ⟨some 73, .q (.load false 1 (.t 72)), none, 4095⟩⟩,
⟨13, ⟨some 74, .q (.mov (.t 0)), none, 0⟩⟩,
⟨14, ⟨some 75, .q (.nilck (.t 74)), none, 8192⟩⟩,
⟨15, ⟨some 76, .q (.faddr 1 (.t 75)), none, 24576⟩⟩,
⟨16, ⟨some 77, .q (.load false 1 (.t 76)), none, 57344⟩⟩,
⟨17, ⟨some 78, .q (.bin .eql .scalar (.t 73) (.t 77)), none, 131071⟩⟩,
⟨18, ⟨some 60, .q (.mov (.t 78)), none, 262143⟩⟩]) (
.cond (.t 60) (
.draw [⟨0, ⟨some 79, .q (.mov (.t 5)), none, 0⟩⟩,
⟨1, ⟨some 80, .q (.nilck (.t 79)), none, 1⟩⟩,
⟨2, ⟨some 81, .q (.faddr 0 (.t 80)), none, 3⟩⟩,
⟨3, ⟨some 82, .q (.load false 1 (.t 81)), none, 7⟩⟩,
⟨4, ⟨some 83, .q (.mov (.t 5)), none, 0⟩⟩,
⟨5, ⟨some 84, .q (.nilck (.t 83)), none, 16⟩⟩,
⟨6, ⟨some 85, .q (.faddr 0 (.t 84)), none, 48⟩⟩,
⟨7, ⟨some 86, .q (.load false 1 (.t 85)), none, 112⟩⟩,
⟨8, ⟨some 87, .q (.len .sl (.t 86)), none, 240⟩⟩,
⟨9, ⟨some 88, .q (.bin .sub .scalar (.t 87) (ci 1)), none, 496⟩⟩,
⟨10, ⟨some 89, .q (.load true 4 (.t 6)), none, 0⟩⟩,
⟨11, ⟨some 90, .q (.iaddr 4 none (.t 82) (.t 88)), none, 2047⟩⟩,
⟨12, ⟨none, .e (.store 4 (.t 90) (.t 89)), none, 4095⟩⟩]) (
.draw [⟨0, ⟨some 27, .q (.mov (.t 5)), none, 0⟩⟩,
⟨1, ⟨some 28, .q (.mov (.t 5)), none, 0⟩⟩,
⟨2, ⟨some 29, .q (.nilck (.t 28)), none, 2⟩⟩,
⟨3, ⟨some 30, .q (.faddr 0 (.t 29)), none, 6⟩⟩,
⟨4, ⟨some 31, .q (.load false 1 (.t 30)), none, 14⟩⟩,
⟨5, ⟨some 32, .q (.load true 4 (.t 6)), none, 0⟩⟩,
⟨6, ⟨some 33, .m (.bslice 102 4 1 [dc (.int .i64 0), dc (.str []), dc (.sl [] true), dc (.int .i64 0)] [(0, 4, (.t 32))]), none, 32⟩⟩,
⟨7, ⟨some 34, .e (.append 102 4 56 (.t 31) (.t 33)), none, 126⟩⟩,
⟨8, ⟨some 35, .q (.nilck (.t 27)), none, 255⟩⟩,
⟨9, ⟨some 36, .q (.faddr 0 (.t 35)), none, 511⟩⟩,
⟨10, ⟨none, .e (.store 1 (.t 36) (.t 34)), none, 1023⟩⟩])))))))) (
.seq (
.region [Q 4 (.mov (ci 0))]) (
.ret))))))
def a97 : AFunc := ⟨c97, [.tmp 4], false⟩
def c98 : ACode :=
.seq (
.region [M 2 (.box 36 3 (.t 0)),
M 3 (.box 116 8 (.t 1)),
Q 4 (.mov (cs [])),
Q 5 (.mov (ci 0))]) (
.seq (
.seq (
.region [Q 7 (.faddr 0 (.t 3)),
Q 8 (.load false 1 (.t 7)),
Q 9 (.bin .eql .scalar (.t 8) (ci 2))]) (
.cond (.t 9) (
.seq (
.seq (
.region [Q 10 (.load true 3 (.t 2)),
Q 11 (.faddr 2 (.t 3)),
Q 12 (.load false 1 (.t 11)),
E 13 (.callf 151 [(.t 10), (.t 12)]),
Q 14 (.un .not (.t 13))]) (
.cond (.t 14) (
.seq (
.region [Q 4 (.mov (cs [])),
Q 5 (.mov (ci 10))]) (
.ret)) (
.skip))) (
.seq (
.region [Q 15 (.faddr 2 (.t 3)),
Q 16 (.load false 1 (.t 15)),
E 17 (.callf 152 [(.t 16)]),
Q 4 (.mov (.t 17)),
Q 5 (.mov (ci 0))]) (
.ret))) (
.skip))) (
.seq (
.region [Q 18 (.load true 3 (.t 2)),
Q 19 (.faddr 2 (.t 3)),
Q 20 (.load false 1 (.t 19)),
E 21 (.callf 145 [(.t 18), (.t 20)]),
Q 6 (.mov (.t 21))]) (
.seq (
.region [Q 22 (.load true 3 (.t 2)),
Q 23 (.faddr 2 (.t 3)),
Q 24 (.load false 1 (.t 23)),
E 25 (.callf 153 [(.t 22), (.t 24)]),
E 26 (.callf 152 [(.t 25)]),
Q 27 (.mov (.t 6)),
Q 4 (.mov (.t 26)),
Q 5 (.mov (.t 27))]) (
.ret))))
def a98 : AFunc := ⟨c98, [.tmp 4, .tmp 5], true⟩
def c99 : ACode :=
.seq (
.region [M 4 (.box 26 2 (.t 1)),
Q 6 (.mov (.c (.one (dc (.sl [] true)))))]) (
.seq (
.seq (
.region [Q 9 (.mov (.t 0)),
E 10 (.callf 101 [(.t 9)]),
Q 11 (.un .not (.t 10)),
Q 12 (.mov (.t 11)),
⟨some 13, .q (.load true 2 (.t 4)), some (12, false), 0⟩,
⟨some 14, .e (.callf 45 [(.t 13)]), some (12, false), 0⟩,
⟨some 15, .q (.un .not (.t 14)), some (12, false), 0⟩,
Q 16 (.pick (.t 12) (cb true) (.t 15)),
Q 17 (.mov (.t 16)),
⟨some 18, .q (.mov (.t 2)), some (17, false), 0⟩,
⟨some 19, .e (.callf 154 [(.t 18)]), some (17, false), 0⟩,
⟨some 20, .q (.un .not (.t 19)), some (17, false), 0⟩,
Q 21 (.pick (.t 17) (cb true) (.t 20))]) (
.cond (.t 21) (
.seq (
.region [Q 22 (.mov (.t 0)),
E 23 (.callf 147 [(.t 22)]),
Q 6 (.mov (.t 23))]) (
.ret)) (
.skip))) (
.seq (
.region [Q 24 (.mov (.t 0)),
Q 25 (.load true 2 (.t 4)),
E 26 (.callf 100 [(.t 24), (.t 25)]),
Q 0 (.mov (.t 26))]) (
.seq (
.region [Q 7 (.mov (ci 0))]) (
.seq (
.block 0 (
.loop (
.seq (
.seq (
.draw [⟨0, ⟨some 27, .q (.mov (.t 7)), none, 0⟩⟩,
⟨1, ⟨some 28, .q (.mov (.t 0)), none, 0⟩⟩,
⟨2, ⟨some 29, .q (.len .sl (.t 28)), none, 2⟩⟩,
⟨3, ⟨some 30, .q (.bin .lss .scalar (.t 27) (.t 29)), none, 7⟩⟩,
⟨4, ⟨some 31, .q (.mov (.t 30)), none, 15⟩⟩,
⟨5, ⟨some 32, .q (.mov (.t 0)), some (31, true), 31⟩⟩,
⟨6, ⟨some 33, .q (.mov (.t 7)), some (31, true), 31⟩⟩,
⟨7, ⟨some 34, .q (.iaddr 3 none (.t 32) (.t 33)), some (31, true), 127⟩⟩,
⟨8, ⟨some 35, .q (.faddr 0 (.t 34)), some (31, true), 255⟩⟩,
⟨9, ⟨some 36, .q (.faddr 0 (.t 35)), some (31, true), 511⟩⟩,
⟨10, ⟨some 37, .q (.load false 1 (.t 36)), some (31, true), 1023⟩⟩,
⟨11, ⟨some 38, .q (.faddr 0 (.t 4)), some (31, true), 31⟩⟩,
⟨12, ⟨some 39, .q (.load false 1 (.t 38)), some (31, true), 2079⟩⟩,
⟨13, ⟨some 40, .q (.bin .lss .scalar (.t 37) (.t 39)), some (31, true), 8191⟩⟩,
⟨14, ⟨some 41, .q (.pick (.t 31) (.t 40) (cb false)), none, 16383⟩⟩]) (
.cond (.t 41) (
.skip) (
.exit 0))) (
.block 1 (
.region [Q 42 (.mov (.t 7)),
Q 43 (.bin .add .scalar (.t 42) (ci 1)),
Q 7 (.mov (.t 43))]))))) (
.seq (
.draw [⟨0, ⟨some 44, .q (.mov (.t 0)), none, 0⟩⟩,
⟨1, ⟨some 45, .q (.mov (.t 7)), none, 0⟩⟩,
⟨2, ⟨some 46, .q (.slice 3 (.t 44) none (some (.t 45)) none), none, 3⟩⟩,
⟨4, ⟨some 48, .q (.load true 2 (.t 4)), none, 0⟩⟩,
⟨5, ⟨some 49, .q (.mov (.t 2)), none, 0⟩⟩,
⟨3, ⟨some 47, .e (.callf 147 [(.t 46)]), none, 7⟩⟩,
⟨6, ⟨some 50, .e (.append 128 4 40 (.c (.one (dc (.sl [] true)))) (.t 49)), none, 47⟩⟩,
⟨7, ⟨some 51, .q (.build [dc (.int .i64 0), dc (.int .i64 0), dc (.sl [] true)] [(0, 2, (.t 48)), (2, 1, (.t 50))]), none, 127⟩⟩,
⟨8, ⟨some 52, .m (.bslice 98 3 1 [dc (.int .i64 0), dc (.int .i64 0), dc (.sl [] true)] [(0, 3, (.t 51))]), none, 255⟩⟩,
⟨9, ⟨some 53, .e (.append 98 3 40 (.t 47) (.t 52)), none, 511⟩⟩,
⟨10, ⟨some 8, .q (.mov (.t 53)), none, 1023⟩⟩]) (
.seq (
.region [Q 54 (.mov (.t 8)),
Q 55 (.mov (.t 0)),
Q 56 (.mov (.t 7)),
Q 57 (.slice 3 (.t 55) (some (.t 56)) none none),
E 58 (.callf 147 [(.t 57)]),
E 59 (.append 98 3 40 (.t 54) (.t 58)),
Q 6 (.mov (.t 59))]) (
.ret)))))))
def a99 : AFunc := ⟨c99, [.tmp 6], true⟩
def c100 : ACode :=
.seq (
.region [M 3 (.box 26 2 (.t 1)),
Q 4 (.mov (.c (.one (dc (.sl [] true)))))]) (
.seq (
.region [Q 10 (.mov (.t 0)),
E 11 (.callf 147 [(.t 10)]),
Q 0 (.mov (.t 11))]) (
.seq (
.seq (
.region [Q 12 (.mov (.t 0)),
E 13 (.callf 101 [(.t 12)]),
Q 14 (.un .not (.t 13)),
Q 15 (.mov (.t 14)),
⟨some 16, .q (.load true 2 (.t 3)), some (15, false), 0⟩,
⟨some 17, .e (.callf 45 [(.t 16)]), some (15, false), 0⟩,
⟨some 18, .q (.un .not (.t 17)), some (15, false), 0⟩,
Q 19 (.pick (.t 15) (cb true) (.t 18))]) (
.cond (.t 19) (
.seq (
.region [Q 20 (.mov (.t 0)),
Q 4 (.mov (.t 20))]) (
.ret)) (
.skip))) (
.seq (
.region [Q 5 (.mov (.c (.one (dc (.sl [] true)))))]) (
.seq (
.seq (
.region [Q 21 (.mov (.t 0)),
Q 22 (.len .sl (.t 21)),
Q 23 (.mov (ci 0))]) (
.block 0 (
.loop (
.seq (
.region [Q 24 (.bin .lss .scalar (.t 23) (.t 22))]) (
.seq (
.cond (.t 24) (
.skip) (
.exit 0)) (
.seq (
.block 1 (
.seq (
.region [Q 25 (.iaddr 3 none (.t 21) (.t 23)),
Q 26 (.load true 3 (.t 25)),
M 7 (.alloc 98 3 [dc (.int .i64 0), dc (.int .i64 0), dc (.sl [] true)]),
⟨none, .e (.store 3 (.t 7) (.t 26)), none, 0⟩]) (
.seq (
.region [Q 27 (.faddr 0 (.t 7)),
Q 28 (.load true 2 (.t 27)),
Q 29 (.load true 2 (.t 3)),
E 30 (.callf 155 [(.t 28), (.t 29)]),
Q 31 (.len .sl (.t 30)),
Q 32 (.mov (ci 0))]) (
.block 2 (
.loop (
.seq (
.region [Q 33 (.bin .lss .scalar (.t 32) (.t 31))]) (
.seq (
.cond (.t 33) (
.skip) (
.exit 2)) (
.seq (
.block 3 (
.seq (
.region [Q 34 (.iaddr 2 none (.t 30) (.t 32)),
Q 35 (.load true 2 (.t 34)),
M 9 (.alloc 26 2 [dc (.int .i64 0), dc (.int .i64 0)]),
⟨none, .e (.store 2 (.t 9) (.t 35)), none, 0⟩]) (
.region [Q 36 (.mov (.t 5)),
Q 37 (.load true 2 (.t 9)),
Q 38 (.faddr 2 (.t 7)),
Q 39 (.load false 1 (.t 38)),
Q 40 (.build [dc (.int .i64 0), dc (.int .i64 0), dc (.sl [] true)] [(0, 2, (.t 37)), (2, 1, (.t 39))]),
M 41 (.bslice 98 3 1 [dc (.int .i64 0), dc (.int .i64 0), dc (.sl [] true)] [(0, 3, (.t 40))]),
E 42 (.append 98 3 40 (.t 36) (.t 41)),
Q 5 (.mov (.t 42))]))) (
.region [Q 43 (.bin .add .scalar (.t 32) (ci 1)),
Q 32 (.mov (.t 43))]))))))))) (
.region [Q 44 (.bin .add .scalar (.t 23) (ci 1)),
Q 23 (.mov (.t 44))]))))))) (
.seq (
.region [Q 45 (.mov (.t 5)),
E 46 (.callf 147 [(.t 45)]),
Q 4 (.mov (.t 46))]) (
.ret))))))
def a100 : AFunc := ⟨c100, [.tmp 4], true⟩
def c101 : ACode :=
.seq (
.region [Q 2 (.mov (cb false))]) (
.seq (
.region [Q 3 (.mov (ci 0))]) (
.seq (
.seq (
.region [Q 6 (.mov (.t 0)),
Q 7 (.len .sl (.t 6)),
Q 8 (.mov (ci 0))]) (
.block 0 (
.loop (
.seq (
.region [Q 9 (.bin .lss .scalar (.t 8) (.t 7))]) (
.seq (
.cond (.t 9) (
.skip) (
.exit 0)) (
.seq (
.block 1 (
.seq (
.region [Q 10 (.iaddr 3 none (.t 6) (.t 8)),
Q 11 (.load true 3 (.t 10)),
M 5 (.alloc 98 3 [dc (.int .i64 0), dc (.int .i64 0), dc (.sl [] true)]),
⟨none, .e (.store 3 (.t 5) (.t 11)), none, 0⟩]) (
.seq (
.seq (
.region [Q 12 (.faddr 0 (.t 5)),
Q 13 (.load true 2 (.t 12)),
E 14 (.callf 45 [(.t 13)]),
Q 15 (.un .not (.t 14)),
Q 16 (.mov (.t 15)),
⟨some 17, .q (.faddr 2 (.t 5)), some (16, false), 0⟩,
⟨some 18, .q (.load false 1 (.t 17)), some (16, false), 0⟩,
⟨some 19, .e (.callf 154 [(.t 18)]), some (16, false), 0⟩,
⟨some 20, .q (.un .not (.t 19)), some (16, false), 0⟩,
Q 21 (.pick (.t 16) (cb true) (.t 20)),
Q 22 (.mov (.t 21)),
⟨some 23, .q (.faddr 0 (.t 5)), some (22, false), 0⟩,
⟨some 24, .q (.faddr 0 (.t 23)), some (22, false), 0⟩,
⟨some 25, .q (.load false 1 (.t 24)), some (22, false), 0⟩,
⟨some 26, .q (.mov (.t 3)), some (22, false), 0⟩,
⟨some 27, .q (.bin .lss .scalar (.t 25) (.t 26)), some (22, false), 0⟩,
Q 28 (.pick (.t 22) (cb true) (.t 27))]) (
.cond (.t 28) (
.seq (
.region [Q 2 (.mov (cb false))]) (
.ret)) (
.skip))) (
.region [Q 29 (.faddr 0 (.t 5)),
Q 30 (.faddr 1 (.t 29)),
Q 31 (.load false 1 (.t 30)),
Q 3 (.mov (.t 31))])))) (
.region [Q 32 (.bin .add .scalar (.t 8) (ci 1)),
Q 8 (.mov (.t 32))]))))))) (
.seq (
.region [Q 2 (.mov (cb true))]) (
.ret))))
def a101 : AFunc := ⟨c101, [.tmp 2], true⟩
def c102 : ACode :=
.seq (
.region [Q 2 (.mov (ci 0))]) (
.seq (
.seq (
.region [Q 6 (.mov (.t 0)),
E 7 (.callf 85 [(.t 6)]),
Q 8 (.un .not (.t 7))]) (
.cond (.t 8) (
.seq (
.region [Q 2 (.mov (ci 0))]) (
.ret)) (
.skip))) (
.seq (
.region [Q 3 (.mov (ci 0))]) (
.seq (
.seq (
.region [Q 9 (.mov (.t 0)),
Q 10 (.len .sl (.t 9)),
Q 11 (.mov (ci 0))]) (
.block 0 (
.loop (
.seq (
.region [Q 12 (.bin .lss .scalar (.t 11) (.t 10))]) (
.seq (
.cond (.t 12) (
.skip) (
.exit 0)) (
.seq (
.block 1 (
.seq (
.region [Q 13 (.iaddr 5 none (.t 9) (.t 11)),
Q 14 (.load true 5 (.t 13)),
M 5 (.alloc 105 5 [dc (.int .i64 0), dc (.int .i64 0), dc (.int .i64 0), dc (.int .i64 0), dc (.sl [] true)]),
⟨none, .e (.store 5 (.t 5) (.t 14)), none, 0⟩]) (
.seq (
.region [Q 15 (.mov (.t 3)),
Q 16 (.faddr 0 (.t 5)),
Q 17 (.faddr 0 (.t 16)),
Q 18 (.load false 1 (.t 17)),
Q 19 (.mnmx true (.t 15) (.t 18)),
Q 3 (.mov (.t 19))]) (
.seq (
.region [Q 20 (.load true 5 (.t 5)),
E 21 (.callf 105 [(.t 20)]),
Q 22 (.un .not (.t 21))]) (
.cond (.t 22) (
.region [Q 23 (.mov (.t 3)),
Q 24 (.faddr 0 (.t 5)),
Q 25 (.faddr 1 (.t 24)),
Q 26 (.load false 1 (.t 25)),
Q 27 (.mnmx true (.t 23) (.t 26)),
Q 3 (.mov (.t 27))]) (
.skip)))))) (
.region [Q 28 (.bin .add .scalar (.t 11) (ci 1)),
Q 11 (.mov (.t 28))]))))))) (
.seq (
.region [Q 29 (.mov (.t 3)),
Q 2 (.mov (.t 29))]) (
.ret)))))
def a102 : AFunc := ⟨c102, [.tmp 2], true⟩
def c103 : ACode :=
.seq (
.region [Q 4 (.mov (.c (.one (dc (.sl [] true))))),
Q 5 (.mov (.c (.one (dc (.sl [] true)))))]) (
.seq (
.seq (
.region [Q 6 (.mov (.t 0)),
E 7 (.callf 101 [(.t 6)]),
Q 8 (.un .not (.t 7)),
Q 9 (.mov (.t 8)),
⟨some 10, .q (.mov (.t 1)), some (9, false), 0⟩,
⟨some 11, .e (.callf 101 [(.t 10)]), some (9, false), 0⟩,
⟨some 12, .q (.un .not (.t 11)), some (9, false), 0⟩,
Q 13 (.pick (.t 9) (cb true) (.t 12))]) (
.cond (.t 13) (
.seq (
.region [Q 4 (.mov (.c (.one (dc (.sl [] true))))),
Q 5 (.mov (.c (.one (dc (.sl [] true)))))]) (
.ret)) (
.skip))) (
.seq (
.region [Q 14 (.mov (.t 0)),
Q 15 (.mov (.t 1)),
E 16 (.callf 156 [(.t 14), (.t 15)]),
Q 17 (.mov (.t 1)),
Q 18 (.mov (.t 0)),
E 19 (.callf 156 [(.t 17), (.t 18)]),
Q 4 (.mov (.t 16)),
Q 5 (.mov (.t 19))]) (
.ret)))
def a103 : AFunc := ⟨c103, [.tmp 4, .tmp 5], true⟩
def c104 : ACode :=
.seq (
.region [M 2 (.box 105 5 (.t 0)),
Q 3 (.mov (cb false))]) (
.seq (
.seq (
.region [Q 6 (.load false 1 (.t 1)),
Q 7 (.len .sl (.t 6)),
Q 8 (.mov (ci 0))]) (
.block 0 (
.loop (
.seq (
.region [Q 9 (.bin .lss .scalar (.t 8) (.t 7))]) (
.seq (
.cond (.t 9) (
.skip) (
.exit 0)) (
.seq (
.block 1 (
.seq (
.region [Q 10 (.iaddr 3 none (.t 6) (.t 8)),
Q 11 (.load true 3 (.t 10)),
M 5 (.alloc 98 3 [dc (.int .i64 0), dc (.int .i64 0), dc (.sl [] true)]),
⟨none, .e (.store 3 (.t 5) (.t 11)), none, 0⟩]) (
.seq (
.region [Q 12 (.load true 5 (.t 2)),
E 13 (.callf 105 [(.t 12)]),
Q 14 (.mov (.t 13)),
⟨some 15, .q (.faddr 2 (.t 2)), some (14, true), 0⟩,
⟨some 16, .q (.load true 3 (.t 15)), some (14, true), 0⟩,
⟨some 17, .q (.load true 3 (.t 5)), some (14, true), 0⟩,
⟨some 18, .e (.callf 106 [(.t 16), (.t 17)]), some (14, true), 0⟩,
Q 19 (.pick (.t 14) (.t 18) (cb false))]) (
.cond (.t 19) (
.seq (
.region [Q 3 (.mov (cb true))]) (
.ret)) (
.skip))))) (
.region [Q 20 (.bin .add .scalar (.t 8) (ci 1)),
Q 8 (.mov (.t 20))]))))))) (
.seq (
.region [Q 3 (.mov (cb false))]) (
.ret)))
def a104 : AFunc := ⟨c104, [.tmp 3], true⟩
def c105 : ACode :=
.seq (
.region [M 1 (.box 105 5 (.t 0)),
Q 2 (.mov (cb false))]) (
.seq (
.region [Q 3 (.faddr 0 (.t 1)),
Q 4 (.faddr 1 (.t 3)),
Q 5 (.load false 1 (.t 4)),
Q 6 (.bin .eql .scalar (.t 5) (ci 1099511627776)),
Q 2 (.mov (.t 6))]) (
.ret))
def a105 : AFunc := ⟨c105, [.tmp 2], true⟩
def c106 : ACode :=
.seq (
.region [M 2 (.box 98 3 (.t 0)),
M 3 (.box 98 3 (.t 1)),
Q 4 (.mov (cb false))]) (
.seq (
.region [Q 5 (.load true 3 (.t 2)),
M 6 (.bslice 98 3 1 [dc (.int .i64 0), dc (.int .i64 0), dc (.sl [] true)] [(0, 3, (.t 5))]),
Q 7 (.load true 3 (.t 3)),
M 8 (.bslice 98 3 1 [dc (.int .i64 0), dc (.int .i64 0), dc (.sl [] true)] [(0, 3, (.t 7))]),
E 9 (.callf 91 [(.t 6), (.t 8)]),
Q 4 (.mov (.t 9))]) (
.ret))
def a106 : AFunc := ⟨c106, [.tmp 4], true⟩
def c107 : ACode :=
.seq (
.region [M 3 (.box 105 5 (.t 0)),
Q 4 (.mov (cb false))]) (
.seq (
.region [Q 5 (.load false 1 (.t 1)),
Q 6 (.load true 5 (.t 3)),
E 7 (.callv (.t 5) [(.t 6)]),
Q 8 (.un .not (.t 7)),
Q 9 (.mov (.t 8)),
⟨some 10, .q (.faddr 0 (.t 3)), some (9, false), 0⟩,
⟨some 11, .q (.faddr 0 (.t 10)), some (9, false), 0⟩,
⟨some 12, .q (.load false 1 (.t 11)), some (9, false), 0⟩,
⟨some 13, .q (.load false 1 (.t 2)), some (9, false), 0⟩,
⟨some 14, .q (.bin .lss .scalar (.t 12) (.t 13)), some (9, false), 0⟩,
Q 15 (.pick (.t 9) (cb true) (.t 14)),
Q 4 (.mov (.t 15))]) (
.ret))
def a107 : AFunc := ⟨c107, [.tmp 4], true⟩
def c108 : ACode :=
.seq (
.region [Q 4 (.mov (.t 0)),
Q 5 (.len .sl (.t 4)),
Q 6 (.mov (ci 0))]) (
.block 0 (
.loop (
.seq (
.region [Q 7 (.bin .lss .scalar (.t 6) (.t 5))]) (
.seq (
.cond (.t 7) (
.skip) (
.exit 0)) (
.seq (
.block 1 (
.seq (
.region [Q 8 (.mov (.t 6)),
Q 2 (.mov (.t 8))]) (
.seq (
.region [Q 9 (.mov (.t 2)),
Q 3 (.mov (.t 9))]) (
.block 2 (
.loop (
.seq (
.seq (
.draw [⟨0, ⟨some 10, .q (.mov (.t 3)), none, 0⟩⟩,
⟨1, ⟨some 11, .q (.bin .gtr .scalar (.t 10) (ci 0)), none, 1⟩⟩,
⟨2, ⟨some 12, .q (.mov (.t 11)), none, 3⟩⟩,
⟨3, ⟨some 13, .q (.mov (.t 0)), some (12, true), 7⟩⟩,
⟨4, ⟨some 14, .q (.mov (.t 3)), some (12, true), 7⟩⟩,
⟨5, ⟨some 15, .q (.iaddr 5 none (.t 13) (.t 14)), some (12, true), 31⟩⟩,
⟨6, ⟨some 16, .q (.load true 5 (.t 15)), some (12, true), 63⟩⟩,
⟨7, ⟨some 17, .q (.mov (.t 0)), some (12, true), 7⟩⟩,
⟨8, ⟨some 18, .q (.mov (.t 3)), some (12, true), 7⟩⟩,
⟨9, ⟨some 19, .q (.bin .sub .scalar (.t 18) (ci 1)), some (12, true), 263⟩⟩,
⟨10, ⟨some 20, .q (.iaddr 5 none (.t 17) (.t 19)), some (12, true), 903⟩⟩,
⟨11, ⟨some 21, .q (.load true 5 (.t 20)), some (12, true), 1927⟩⟩,
⟨12, ⟨some 22, .e (.callf 142 [(.t 16), (.t 21)]), some (12, true), 4095⟩⟩,
⟨13, ⟨some 23, .q (.pick (.t 12) (.t 22) (cb false)), none, 8191⟩⟩]) (
.cond (.t 23) (
.skip) (
.exit 2))) (
.seq (
.block 3 (
.draw [⟨0, ⟨some 26, .q (.mov (.t 0)), none, 0⟩⟩,
⟨1, ⟨some 27, .q (.mov (.t 3)), none, 0⟩⟩,
⟨2, ⟨some 28, .q (.mov (.t 0)), none, 0⟩⟩,
⟨3, ⟨some 29, .q (.mov (.t 3)), none, 0⟩⟩,
⟨4, ⟨some 30, .q (.bin .sub .scalar (.t 29) (ci 1)), none, 8⟩⟩,
⟨5, ⟨some 31, .q (.mov (.t 0)), none, 0⟩⟩,
⟨6, ⟨some 32, .q (.mov (.t 3)), none, 0⟩⟩,
⟨7, ⟨some 33, .q (.bin .sub .scalar (.t 32) (ci 1)), none, 64⟩⟩,
⟨8, ⟨some 34, .q (.iaddr 5 none (.t 31) (.t 33)), none, 224⟩⟩,
⟨9, ⟨some 35, .q (.load true 5 (.t 34)), none, 480⟩⟩,
⟨10, ⟨some 36, .q (.mov (.t 0)), none, 0⟩⟩,
⟨11, ⟨some 37, .q (.mov (.t 3)), none, 0⟩⟩,
⟨12, ⟨some 38, .q (.iaddr 5 none (.t 36) (.t 37)), none, 3072⟩⟩,
⟨13, ⟨some 39, .q (.load true 5 (.t 38)), none, 7168⟩⟩,
⟨14, ⟨some 40, .q (.iaddr 5 none (.t 26) (.t 27)), none, 16355⟩⟩,
⟨15, ⟨none, .e (.store 5 (.t 40) (.t 35)), none, 32739⟩⟩,
⟨16, ⟨some 41, .q (.iaddr 5 none (.t 28) (.t 30)), none, 65535⟩⟩,
⟨17, ⟨none, .e (.store 5 (.t 41) (.t 39)), none, 131071⟩⟩])) (
.region [Q 24 (.mov (.t 3)),
Q 25 (.bin .sub .scalar (.t 24) (ci 1)),
Q 3 (.mov (.t 25))])))))))) (
.region [Q 42 (.bin .add .scalar (.t 6) (ci 1)),
Q 6 (.mov (.t 42))]))))))
def a108 : AFunc := ⟨c108, [], false⟩
def c110 : ACode :=
.seq (
.region [Q 2 (.mov (cs []))]) (
.seq (
.region [Q 3 (.mov (cs []))]) (
.seq (
.block 0 (
.loop (
.seq (
.seq (
.region [Q 4 (.mov (.t 0)),
Q 5 (.bin .geq .scalar (.t 4) (.c (.one (dc (.int .u64 128)))))]) (
.cond (.t 5) (
.skip) (
.exit 0))) (
.seq (
.block 1 (
.region [Q 8 (.mov (.t 3)),
Q 9 (.mov (.t 0)),
Q 10 (.bin .rem .scalar (.t 9) (.c (.one (dc (.int .u64 128))))),
Q 11 (.bin .add .scalar (.t 10) (.c (.one (dc (.int .u64 128))))),
E 12 (.callf 157 [(.t 11)]),
Q 13 (.bin .add .scalar (.t 8) (.t 12)),
Q 3 (.mov (.t 13))])) (
.region [Q 6 (.mov (.t 0)),
Q 7 (.bin .shr .scalar (.t 6) (.c (.one (dc (.int .u64 7))))),
Q 0 (.mov (.t 7))]))))) (
.seq (
.region [Q 14 (.mov (.t 3)),
Q 15 (.mov (.t 0)),
E 16 (.callf 157 [(.t 15)]),
Q 17 (.bin .add .scalar (.t 14) (.t 16)),
Q 2 (.mov (.t 17))]) (
.ret))))
def a110 : AFunc := ⟨c110, [.tmp 2], true⟩
def c111 : ACode :=
.seq (
.region [Q 2 (.mov (cs []))]) (
.seq (
.region [Q 3 (.mov (.t 0)),
Q 4 (.len .str (.t 3)),
Q 5 (.conv (.int .u64) (.t 4)),
E 6 (.callf 110 [(.t 5)]),
Q 7 (.mov (.t 0)),
Q 8 (.bin .add .scalar (.t 6) (.t 7)),
Q 2 (.mov (.t 8))]) (
.ret))
def a111 : AFunc := ⟨c111, [.tmp 2], true⟩
def c112 : ACode :=
.seq (
.region [M 1 (.box 36 3 (.t 0)),
Q 2 (.mov (cs []))]) (
.seq (
.seq (
.region [Q 7 (.load true 3 (.t 1)),
E 8 (.callf 144 [(.t 7)]),
Q 9 (.un .not (.t 8))]) (
.cond (.t 9) (
.seq (
.region [Q 2 (.mov (cs []))]) (
.ret)) (
.skip))) (
.seq (
.draw [⟨0, ⟨some 10, .q (.faddr 0 (.t 1)), none, 0⟩⟩,
⟨1, ⟨some 11, .q (.load false 1 (.t 10)), none, 1⟩⟩,
⟨3, ⟨some 13, .q (.faddr 2 (.t 1)), none, 0⟩⟩,
⟨4, ⟨some 14, .q (.load false 1 (.t 13)), none, 8⟩⟩,
⟨5, ⟨some 15, .q (.conv (.int .u64) (.t 14)), none, 24⟩⟩,
⟨8, ⟨some 18, .q (.faddr 1 (.t 1)), none, 0⟩⟩,
⟨9, ⟨some 19, .q (.load false 1 (.t 18)), none, 256⟩⟩,
⟨10, ⟨some 20, .q (.len .sl (.t 19)), none, 768⟩⟩,
⟨11, ⟨some 21, .q (.conv (.int .u64) (.t 20)), none, 1792⟩⟩,
⟨2, ⟨some 12, .e (.callf 111 [(.t 11)]), none, 3⟩⟩,
⟨6, ⟨some 16, .e (.callf 110 [(.t 15)]), none, 63⟩⟩,
⟨7, ⟨some 17, .q (.bin .add .scalar (.t 12) (.t 16)), none, 127⟩⟩,
⟨12, ⟨some 22, .e (.callf 110 [(.t 21)]), none, 3967⟩⟩,
⟨13, ⟨some 23, .q (.bin .add .scalar (.t 17) (.t 22)), none, 8191⟩⟩,
⟨14, ⟨some 3, .q (.mov (.t 23)), none, 16383⟩⟩]) (
.seq (
.seq (
.region [Q 24 (.faddr 1 (.t 1)),
Q 25 (.load false 1 (.t 24)),
Q 26 (.len .sl (.t 25)),
Q 27 (.mov (ci 0))]) (
.block 0 (
.loop (
.seq (
.region [Q 28 (.bin .lss .scalar (.t 27) (.t 26))]) (
.seq (
.cond (.t 28) (
.skip) (
.exit 0)) (
.seq (
.block 1 (
.seq (
.region [Q 29 (.iaddr 3 none (.t 25) (.t 27)),
Q 30 (.load true 3 (.t 29)),
M 5 (.alloc 185 3 [dc (.str []), dc (.int .i64 0), dc (.bool false)]),
⟨none, .e (.store 3 (.t 5) (.t 30)), none, 0⟩]) (
.seq (
.region [Q 6 (.mov (.c (.one (dc (.int .u64 0)))))]) (
.seq (
.seq (
.region [Q 31 (.faddr 2 (.t 5)),
Q 32 (.load false 1 (.t 31))]) (
.cond (.t 32) (
.region [Q 6 (.mov (.c (.one (dc (.int .u64 1)))))]) (
.skip))) (
.draw [⟨0, ⟨some 33, .q (.mov (.t 3)), none, 0⟩⟩,
⟨1, ⟨some 34, .q (.faddr 0 (.t 5)), none, 0⟩⟩,
⟨2, ⟨some 35, .q (.load false 1 (.t 34)), none, 2⟩⟩,
⟨4, ⟨some 37, .q (.faddr 1 (.t 5)), none, 0⟩⟩,
⟨5, ⟨some 38, .q (.load false 1 (.t 37)), none, 16⟩⟩,
⟨6, ⟨some 39, .q (.conv (.int .u64) (.t 38)), none, 48⟩⟩,
⟨9, ⟨some 42, .q (.mov (.t 6)), none, 0⟩⟩,
⟨3, ⟨some 36, .e (.callf 111 [(.t 35)]), none, 6⟩⟩,
⟨7, ⟨some 40, .e (.callf 110 [(.t 39)]), none, 126⟩⟩,
⟨8, ⟨some 41, .q (.bin .add .scalar (.t 36) (.t 40)), none, 254⟩⟩,
⟨10, ⟨some 43, .e (.callf 110 [(.t 42)]), none, 766⟩⟩,
⟨11, ⟨some 44, .q (.bin .add .scalar (.t 41) (.t 43)), none, 2046⟩⟩,
⟨12, ⟨some 45, .q (.bin .add .scalar (.t 33) (.t 44)), none, 4095⟩⟩,
⟨13, ⟨some 3, .q (.mov (.t 45)), none, 8191⟩⟩]))))) (
.region [Q 46 (.bin .add .scalar (.t 27) (ci 1)),
Q 27 (.mov (.t 46))]))))))) (
.seq (
.region [Q 47 (.mov (.t 3)),
Q 2 (.mov (.t 47))]) (
.ret)))))
def a112 : AFunc := ⟨c112, [.tmp 2], true⟩
def c113 : ACode :=
.seq (
.region [Q 2 (.mov (cs []))]) (
.seq (
.region [Q 6 (.mov (.t 0)),
Q 7 (.len .sl (.t 6)),
Q 8 (.conv (.int .u64) (.t 7)),
E 9 (.callf 110 [(.t 8)]),
Q 3 (.mov (.t 9))]) (
.seq (
.seq (
.region [Q 10 (.mov (.t 0)),
Q 11 (.len .sl (.t 10)),
Q 12 (.mov (ci 0))]) (
.block 0 (
.loop (
.seq (
.region [Q 13 (.bin .lss .scalar (.t 12) (.t 11))]) (
.seq (
.cond (.t 13) (
.skip) (
.exit 0)) (
.seq (
.block 1 (
.seq (
.region [Q 14 (.iaddr 4 none (.t 10) (.t 12)),
Q 15 (.load true 4 (.t 14)),
M 5 (.alloc 128 4 [dc (.int .i64 0), dc (.int .i64 0), dc (.int .u64 0), dc (.str [])]),
⟨none, .e (.store 4 (.t 5) (.t 15)), none, 0⟩]) (
.seq (
.seq (
.region [Q 16 (.load true 4 (.t 5)),
E 17 (.callf 158 [(.t 16)]),
Q 18 (.un .not (.t 17))]) (
.cond (.t 18) (
.seq (
.region [Q 2 (.mov (cs []))]) (
.ret)) (
.skip))) (
.region [Q 19 (.mov (.t 3)),
Q 20 (.load true 4 (.t 5)),
E 21 (.callf 159 [(.t 20)]),
Q 22 (.bin .add .scalar (.t 19) (.t 21)),
Q 3 (.mov (.t 22))])))) (
.region [Q 23 (.bin .add .scalar (.t 12) (ci 1)),
Q 12 (.mov (.t 23))]))))))) (
.seq (
.region [Q 24 (.mov (.t 3)),
Q 2 (.mov (.t 24))]) (
.ret))))
def a113 : AFunc := ⟨c113, [.tmp 2], true⟩
def c114 : ACode :=
.seq (
.region [Q 2 (.mov (.c (.one (dc (.nilp)))))]) (
.seq (
.region [Q 3 (.mov (.t 0)),
Q 4 (.build [dc (.str []), dc (.int .i64 0), dc (.int .i64 0)] [(0, 1, (.t 3))]),
M 5 (.box 243 3 (.t 4)),
Q 2 (.mov (.t 5))]) (
.ret))
def a114 : AFunc := ⟨c114, [.tmp 2], false⟩
def c115 : ACode :=
.seq (
.region [M 1 (.box 189 1 (.t 0)),
Q 2 (.mov (ci 0))]) (
.seq (
.region [Q 3 (.faddr 0 (.t 1)),
Q 4 (.load false 1 (.t 3)),
E 5 (.callf 160 [(.t 4)]),
Q 6 (.mnmx false (.t 5) (.c (.one (dc (.int .u64 1099511627777))))),
Q 7 (.conv (.int .i64) (.t 6)),
Q 2 (.mov (.t 7))]) (
.ret))
def a115 : AFunc := ⟨c115, [.tmp 2], false⟩
def c116 : ACode :=
.seq (
.region [M 2 (.box 189 1 (.t 0))]) (
.seq (
.region [Q 5 (.faddr 0 (.t 2)),
Q 6 (.load false 1 (.t 5)),
E 7 (.callf 160 [(.t 6)]),
Q 4 (.mov (.t 7))]) (
.block 0 (
.loop (
.seq (
.seq (
.region [Q 8 (.mov (.t 4)),
Q 9 (.bin .gtr .scalar (.t 8) (.c (.one (dc (.int .u64 0))))),
Q 10 (.mov (.t 9)),
⟨some 11, .q (.faddr 0 (.t 2)), some (10, true), 0⟩,
⟨some 12, .q (.load false 1 (.t 11)), some (10, true), 0⟩,
⟨some 13, .e (.callf 119 [(.t 12)]), some (10, true), 0⟩,
⟨some 14, .q (.bin .eql .scalar (.t 13) (ci 0)), some (10, true), 0⟩,
Q 15 (.pick (.t 10) (.t 14) (cb false))]) (
.cond (.t 15) (
.skip) (
.exit 0))) (
.seq (
.block 1 (
.seq (
.region [Q 18 (.mov (.t 1)),
E 19 (.callv (.t 18) []),
Q 20 (.un .not (.t 19))]) (
.cond (.t 20) (
.ret) (
.skip)))) (
.region [Q 16 (.mov (.t 4)),
Q 17 (.bin .sub .scalar (.t 16) (.c (.one (dc (.int .u64 1))))),
Q 4 (.mov (.t 17))]))))))
def a116 : AFunc := ⟨c116, [], false⟩
def c117 : ACode :=
.seq (
.region [M 1 (.box 189 1 (.t 0)),
Q 2 (.mov (.c (.one (dc (.nilp)))))]) (
.seq (
.region [M 8 (.mkmap .str),
Q 9 (.build [dc (.sl [] true), dc (.nilm)] [(1, 1, (.t 8))]),
M 10 (.box 92 2 (.t 9)),
M 3 (.alloc 93 1 [dc (.nilp)]),
⟨none, .e (.store 1 (.t 3) (.t 10)), none, 0⟩]) (
.seq (
.seq (
.region [Q 11 (.load true 1 (.t 1)),
Q 12 (.mkfn (.func 116) 116 [(.t 11)] [])]) (
.block 0 (
.rfunc (.t 12) [] (
.skip) (
.block 1 (
.seq (
.region [Q 13 (.load true 1 (.t 1)),
E 14 (.callf 115 [(.t 13)]),
Q 15 (.build [dc (.int .i64 0), dc (.str []), dc (.sl [] true), dc (.int .i64 0)] [(0, 1, (.t 14))]),
M 4 (.alloc 102 4 [dc (.int .i64 0), dc (.str []), dc (.sl [] true), dc (.int .i64 0)]),
⟨none, .e (.store 4 (.t 4) (.t 15)), none, 0⟩]) (
.seq (
.region [Q 17 (.faddr 0 (.t 1)),
Q 18 (.load false 1 (.t 17)),
E 19 (.callf 162 [(.t 18)]),
E 20 (.callf 161 [(.t 19)]),
Q 16 (.mov (.t 20)),
Q 21 (.extract 0 (.t 16)),
Q 22 (.extract 1 (.t 16)),
Q 23 (.faddr 1 (.t 4)),
⟨none, .e (.store 3 (.t 23) (.t 21)), none, 0⟩]) (
.draw [⟨0, ⟨some 24, .q (.load false 1 (.t 3)), none, 0⟩⟩,
⟨1, ⟨some 25, .q (.load false 1 (.t 3)), none, 0⟩⟩,
⟨2, ⟨some 26, .q (.nilck (.t 25)), none, 2⟩⟩,
⟨3, ⟨some 27, .q (.faddr 0 (.t 26)), none, 6⟩⟩,
⟨4, ⟨some 28, .q (.load false 1 (.t 27)), none, 14⟩⟩,
⟨5, ⟨some 29, .q (.load true 4 (.t 4)), none, 0⟩⟩,
⟨6, ⟨some 30, .m (.bslice 102 4 1 [dc (.int .i64 0), dc (.str []), dc (.sl [] true), dc (.int .i64 0)] [(0, 4, (.t 29))]), none, 32⟩⟩,
⟨7, ⟨some 31, .e (.append 102 4 56 (.t 28) (.t 30)), none, 126⟩⟩,
⟨8, ⟨some 32, .q (.nilck (.t 24)), none, 255⟩⟩,
⟨9, ⟨some 33, .q (.faddr 0 (.t 32)), none, 511⟩⟩,
⟨10, ⟨none, .e (.store 1 (.t 33) (.t 31)), none, 1023⟩⟩]))))))) (
.seq (
.seq (
.region [Q 34 (.load true 1 (.t 1)),
Q 35 (.mkfn (.func 116) 116 [(.t 34)] [])]) (
.block 2 (
.rfunc (.t 35) [] (
.skip) (
.block 3 (
.seq (
.region [Q 36 (.faddr 0 (.t 1)),
Q 37 (.load false 1 (.t 36)),
E 38 (.callf 162 [(.t 37)]),
Q 5 (.mov (.t 38))]) (
.seq (
.region [M 6 (.alloc 88 1 [dc (.sl [] true)])]) (
.seq (
.seq (
.region [Q 39 (.load true 1 (.t 1)),
Q 40 (.mkfn (.func 116) 116 [(.t 39)] [])]) (
.block 4 (
.rfunc (.t 40) [] (
.skip) (
.block 5 (
.seq (
.region [Q 41 (.load true 1 (.t 1)),
E 42 (.callf 163 [(.t 41)]),
Q 43 (.build [dc (.int .i64 0), dc (.int .i64 0), dc (.int .i64 0), dc (.int .i64 0), dc (.sl [] true)] [(0, 2, (.t 42))]),
M 7 (.alloc 105 5 [dc (.int .i64 0), dc (.int .i64 0), dc (.int .i64 0), dc (.int .i64 0), dc (.sl [] true)]),
⟨none, .e (.store 5 (.t 7) (.t 43)), none, 0⟩]) (
.seq (
.region [Q 44 (.load true 1 (.t 1)),
E 45 (.callf 163 [(.t 44)]),
Q 46 (.faddr 2 (.t 7)),
Q 47 (.faddr 0 (.t 46)),
⟨none, .e (.store 2 (.t 47) (.t 45)), none, 0⟩]) (
.seq (
.region [Q 48 (.faddr 0 (.t 1)),
Q 49 (.load false 1 (.t 48)),
E 50 (.callf 164 [(.t 49)]),
Q 51 (.faddr 2 (.t 7)),
Q 52 (.faddr 2 (.t 51)),
⟨none, .e (.store 1 (.t 52) (.t 50)), none, 0⟩]) (
.region [Q 53 (.load false 1 (.t 6)),
Q 54 (.load true 5 (.t 7)),
M 55 (.bslice 105 5 1 [dc (.int .i64 0), dc (.int .i64 0), dc (.int .i64 0), dc (.int .i64 0), dc (.sl [] true)] [(0, 5, (.t 54))]),
E 56 (.append 105 5 56 (.t 53) (.t 55)),
⟨none, .e (.store 1 (.t 6) (.t 56)), none, 0⟩])))))))) (
.draw [⟨0, ⟨some 57, .q (.load false 1 (.t 3)), none, 0⟩⟩,
⟨1, ⟨some 58, .q (.nilck (.t 57)), none, 1⟩⟩,
⟨2, ⟨some 59, .q (.faddr 1 (.t 58)), none, 3⟩⟩,
⟨3, ⟨some 60, .q (.load false 1 (.t 59)), none, 7⟩⟩,
⟨4, ⟨some 61, .q (.mov (.t 5)), none, 0⟩⟩,
⟨5, ⟨some 62, .q (.load false 1 (.t 6)), none, 0⟩⟩,
⟨6, ⟨none, .e (.mapup .str (.t 60) (.t 61) (.t 62)), none, 63⟩⟩])))))))) (
.seq (
.region [Q 63 (.load false 1 (.t 3)),
Q 2 (.mov (.t 63))]) (
.ret)))))
def a117 : AFunc := ⟨c117, [.tmp 2], false⟩
def c118 : ACode :=
.seq (
.region [Q 4 (.mov (cb false))]) (
.seq (
.seq (
.region [Q 13 (.mov (.t 0)),
Q 14 (.mov (.t 1)),
E 15 (.callf 165 [(.t 13), (.t 14)]),
Q 16 (.un .not (.t 15))]) (
.cond (.t 16) (
.seq (
.region [Q 4 (.mov (cb false))]) (
.ret)) (
.skip))) (
.seq (
.seq (
.region [Q 17 (.mov (.t 0)),
Q 18 (.nilck (.t 17)),
Q 19 (.faddr 1 (.t 18)),
Q 20 (.load false 1 (.t 19)),
M 21 (.range false (.t 20))]) (
.block 0 (
.loop (
.seq (
.region [E 22 (.next false (.t 21)),
Q 23 (.extract 0 (.t 22))]) (
.seq (
.cond (.t 23) (
.skip) (
.exit 0)) (
.block 1 (
.seq (
.region [E 24 (.entry (.t 21)),
Q 25 (.extract 0 (.t 24)),
Q 26 (.extract 1 (.t 24)),
Q 5 (.mov (.t 25)),
Q 6 (.mov (.t 26))]) (
.seq (
.region [Q 28 (.mov (.t 5)),
E 29 (.callf 166 [(.t 28)]),
Q 27 (.mov (.t 29)),
Q 30 (.extract 0 (.t 27)),
Q 31 (.extract 1 (.t 27)),
Q 7 (.mov (.t 30)),
Q 8 (.mov (.t 31))]) (
.seq (
.seq (
.region [Q 32 (.mov (.t 8)),
Q 33 (.bin .neq .scalar (.t 32) (ci 0)),
Q 34 (.mov (.t 33)),
⟨some 35, .q (.mov (.t 0)), some (34, false), 0⟩,
⟨some 36, .e (.callf 46 [(.t 35)]), some (34, false), 0⟩,
⟨some 37, .q (.mov (.t 7)), some (34, false), 0⟩,
⟨some 38, .e (.callf 151 [(.t 36), (.t 37)]), some (34, false), 0⟩,
⟨some 39, .q (.un .not (.t 38)), some (34, false), 0⟩,
Q 40 (.pick (.t 34) (cb true) (.t 39)),
Q 41 (.mov (.t 40)),
⟨some 42, .q (.mov (.t 6)), some (41, false), 0⟩,
⟨some 43, .q (.len .sl (.t 42)), some (41, false), 0⟩,
⟨some 44, .q (.bin .eql .scalar (.t 43) (ci 0)), some (41, false), 0⟩,
Q 45 (.pick (.t 41) (cb true) (.t 44)),
Q 46 (.mov (.t 45)),
⟨some 47, .q (.mov (.t 6)), some (46, false), 0⟩,
⟨some 48, .e (.callf 85 [(.t 47)]), some (46, false), 0⟩,
⟨some 49, .q (.un .not (.t 48)), some (46, false), 0⟩,
Q 50 (.pick (.t 46) (cb true) (.t 49)),
Q 51 (.mov (.t 50)),
⟨some 52, .q (.mov (.t 6)), some (51, false), 0⟩,
⟨some 53, .e (.callf 102 [(.t 52)]), some (51, false), 0⟩,
⟨some 54, .q (.mov (.t 1)), some (51, false), 0⟩,
⟨some 55, .q (.bin .gtr .scalar (.t 53) (.t 54)), some (51, false), 0⟩,
Q 56 (.pick (.t 51) (cb true) (.t 55))]) (
.cond (.t 56) (
.seq (
.region [Q 4 (.mov (cb false))]) (
.ret)) (
.skip))) (
.seq (
.region [Q 57 (.mov (.t 6)),
Q 58 (.len .sl (.t 57)),
Q 59 (.mov (ci 0))]) (
.block 2 (
.loop (
.seq (
.region [Q 60 (.bin .lss .scalar (.t 59) (.t 58))]) (
.seq (
.cond (.t 60) (
.skip) (
.exit 2)) (
.seq (
.block 3 (
.seq (
.region [Q 61 (.iaddr 5 none (.t 57) (.t 59)),
Q 62 (.load true 5 (.t 61)),
M 10 (.alloc 105 5 [dc (.int .i64 0), dc (.int .i64 0), dc (.int .i64 0), dc (.int .i64 0), dc (.sl [] true)]),
⟨none, .e (.store 5 (.t 10) (.t 62)), none, 0⟩]) (
.seq (
.draw [⟨0, ⟨some 64, .q (.mov (.t 0)), none, 0⟩⟩,
⟨2, ⟨some 66, .q (.faddr 2 (.t 10)), none, 0⟩⟩,
⟨3, ⟨some 67, .q (.faddr 2 (.t 66)), none, 4⟩⟩,
⟨4, ⟨some 68, .q (.load false 1 (.t 67)), none, 12⟩⟩,
⟨1, ⟨some 65, .e (.callf 46 [(.t 64)]), none, 1⟩⟩,
⟨5, ⟨some 69, .e (.callf 89 [(.t 65), (.t 68)]), none, 31⟩⟩,
⟨6, ⟨some 63, .q (.mov (.t 69)), none, 63⟩⟩,
⟨7, ⟨some 70, .q (.extract 0 (.t 63)), none, 127⟩⟩,
⟨8, ⟨some 71, .q (.extract 1 (.t 63)), none, 127⟩⟩,
⟨9, ⟨some 11, .q (.mov (.t 70)), none, 255⟩⟩,
⟨10, ⟨some 12, .q (.mov (.t 71)), none, 1023⟩⟩]) (
.seq (
.region [Q 72 (.mov (.t 12)),
Q 73 (.bin .neq .scalar (.t 72) (ci 0))]) (
.cond (.t 73) (
.seq (
.region [Q 4 (.mov (cb false))]) (
.ret)) (
.skip)))))) (
.region [Q 74 (.bin .add .scalar (.t 59) (ci 1)),
Q 59 (.mov (.t 74))])))))))))))))))) (
.seq (
.region [Q 4 (.mov (cb true))]) (
.ret))))
def a118 : AFunc := ⟨c118, [.tmp 4], true⟩
def c119 : ACode :=
.seq (
.region [Q 2 (.mov (ci 0))]) (
.seq (
.seq (
.region [Q 3 (.mov (.t 0)),
Q 4 (.bin .eql .ptr (.t 3) (.c (.one (dc (.nilp)))))]) (
.cond (.t 4) (
.seq (
.region [Q 2 (.mov (ci 13))]) (
.ret)) (
.skip))) (
.seq (
.region [Q 5 (.mov (.t 0)),
Q 6 (.nilck (.t 5)),
Q 7 (.faddr 2 (.t 6)),
Q 8 (.load false 1 (.t 7)),
Q 2 (.mov (.t 8))]) (
.ret)))
def a119 : AFunc := ⟨c119, [.tmp 2], false⟩
def c120 : ACode :=
.seq (
.region [Q 2 (.mov (cs [])),
Q 3 (.mov (cb false))]) (
.seq (
.region [Q 5 (.mov (.t 0)),
Q 6 (.len .str (.t 5)),
Q 7 (.bin .sub .scalar (.t 6) (ci 4)),
Q 4 (.mov (.t 7))]) (
.seq (
.seq (
.region [Q 8 (.mov (.t 4)),
Q 9 (.bin .lss .scalar (.t 8) (ci 0)),
Q 10 (.mov (.t 9)),
⟨some 11, .q (.mov (.t 0)), some (10, false), 0⟩,
⟨some 12, .q (.mov (.t 4)), some (10, false), 0⟩,
⟨some 13, .q (.sslice (.t 11) none (some (.t 12))), some (10, false), 0⟩,
⟨some 14, .e (.callf 167 [(.t 13)]), some (10, false), 0⟩,
⟨some 15, .q (.mov (.t 0)), some (10, false), 0⟩,
⟨some 16, .q (.bin .neq .scalar (.t 14) (.t 15)), some (10, false), 0⟩,
Q 17 (.pick (.t 10) (cb true) (.t 16))]) (
.cond (.t 17) (
.seq (
.region [Q 2 (.mov (cs [])),
Q 3 (.mov (cb false))]) (
.ret)) (
.skip))) (
.seq (
.region [Q 18 (.mov (.t 0)),
Q 19 (.mov (.t 4)),
Q 20 (.sslice (.t 18) none (some (.t 19))),
Q 2 (.mov (.t 20)),
Q 3 (.mov (cb true))]) (
.ret))))
def a120 : AFunc := ⟨c120, [.tmp 2, .tmp 3], true⟩
def c121 : ACode :=
.seq (
.region [M 2 (.alloc 24 3 [dc (.int .i64 0), dc (.int .i64 0), dc (.sl [] true)]),
Q 3 (.mov (ci 0))]) (
.seq (
.region [Q 7 (.mov (.t 0)),
E 8 (.callf 114 [(.t 7)]),
Q 4 (.mov (.t 8))]) (
.seq (
.region [Q 9 (.mov (.t 4)),
E 10 (.callf 168 [(.t 9)]),
Q 11 (.build [dc (.int .i64 0), dc (.int .i64 0), dc (.sl [] true)] [(0, 1, (.t 10))]),
M 5 (.alloc 24 3 [dc (.int .i64 0), dc (.int .i64 0), dc (.sl [] true)]),
⟨none, .e (.store 3 (.t 5) (.t 11)), none, 0⟩]) (
.seq (
.region [Q 12 (.mov (.t 4)),
E 13 (.callf 168 [(.t 12)]),
Q 14 (.faddr 1 (.t 5)),
⟨none, .e (.store 1 (.t 14) (.t 13)), none, 0⟩]) (
.seq (
.seq (
.region [Q 15 (.mov (.t 4)),
E 16 (.callf 168 [(.t 15)]),
Q 6 (.mov (.t 16))]) (
.block 0 (
.loop (
.seq (
.seq (
.region [Q 17 (.mov (.t 6)),
Q 18 (.bin .gtr .scalar (.t 17) (ci 0)),
Q 19 (.mov (.t 18)),
⟨some 20, .q (.mov (.t 4)), some (19, true), 0⟩,
⟨some 21, .e (.callf 119 [(.t 20)]), some (19, true), 0⟩,
⟨some 22, .q (.bin .eql .scalar (.t 21) (ci 0)), some (19, true), 0⟩,
Q 23 (.pick (.t 19) (.t 22) (cb false)),
Q 24 (.mov (.t 23)),
⟨some 25, .q (.faddr 2 (.t 5)), some (24, true), 0⟩,
⟨some 26, .q (.load false 1 (.t 25)), some (24, true), 0⟩,
⟨some 27, .q (.len .sl (.t 26)), some (24, true), 0⟩,
⟨some 28, .q (.bin .leq .scalar (.t 27) (ci 100)), some (24, true), 0⟩,
Q 29 (.pick (.t 24) (.t 28) (cb false))]) (
.cond (.t 29) (
.skip) (
.exit 0))) (
.seq (
.block 1 (
.draw [⟨0, ⟨some 32, .q (.faddr 2 (.t 5)), none, 0⟩⟩,
⟨1, ⟨some 33, .q (.load false 1 (.t 32)), none, 1⟩⟩,
⟨2, ⟨some 34, .q (.mov (.t 4)), none, 0⟩⟩,
⟨3, ⟨some 35, .e (.callf 169 [(.t 34)]), none, 4⟩⟩,
⟨4, ⟨some 36, .m (.bslice 116 8 1 [dc (.int .i64 0), dc (.str []), dc (.sl [] true), dc (.int .i64 0), dc (.int .i64 0), dc (.str []), dc (.sl [] true), dc (.int .i64 0)] [(0, 8, (.t 35))]), none, 12⟩⟩,
⟨5, ⟨some 37, .e (.append 116 8 112 (.t 33) (.t 36)), none, 31⟩⟩,
⟨6, ⟨some 38, .q (.faddr 2 (.t 5)), none, 63⟩⟩,
⟨7, ⟨none, .e (.store 1 (.t 38) (.t 37)), none, 127⟩⟩])) (
.region [Q 30 (.mov (.t 6)),
Q 31 (.bin .sub .scalar (.t 30) (ci 1)),
Q 6 (.mov (.t 31))])))))) (
.seq (
.seq (
.region [Q 39 (.mov (.t 4)),
E 40 (.callf 119 [(.t 39)]),
Q 41 (.bin .neq .scalar (.t 40) (ci 0)),
Q 42 (.mov (.t 41)),
⟨some 43, .q (.load true 3 (.t 5)), some (42, false), 0⟩,
⟨some 44, .e (.callf 170 [(.t 43)]), some (42, false), 0⟩,
⟨some 45, .q (.mov (.t 0)), some (42, false), 0⟩,
⟨some 46, .q (.bin .neq .scalar (.t 44) (.t 45)), some (42, false), 0⟩,
Q 47 (.pick (.t 42) (cb true) (.t 46))]) (
.cond (.t 47) (
.seq (
.region [Q 48 (.build [dc (.int .i64 0), dc (.int .i64 0), dc (.sl [] true)] []),
⟨none, .e (.store 3 (.t 2) (.t 48)), none, 0⟩,
Q 3 (.mov (ci 7))]) (
.ret)) (
.skip))) (
.seq (
.region [Q 49 (.load true 3 (.t 5)),
⟨none, .e (.store 3 (.t 2) (.t 49)), none, 0⟩,
Q 3 (.mov (ci 0))]) (
.ret)))))))
def a121 : AFunc := ⟨c121, [.cell 2 true 3, .tmp 3], true⟩
def c122 : ACode :=
.seq (
.region [M 3 (.box 24 3 (.t 1)),
Q 4 (.mov (ci 0))]) (
.seq (
.seq (
.region [Q 6 (.mov (.t 0)),
Q 7 (.nilck (.t 6)),
Q 8 (.faddr 2 (.t 7)),
Q 9 (.load false 1 (.t 8))]) (
.cond (.t 9) (
.seq (
.region [Q 4 (.mov (ci 17))]) (
.ret)) (
.skip))) (
.seq (
.draw [⟨0, ⟨some 10, .q (.mov (.t 0)), none, 0⟩⟩,
⟨1, ⟨some 11, .q (.nilck (.t 10)), none, 1⟩⟩,
⟨2, ⟨some 12, .q (.faddr 0 (.t 11)), none, 3⟩⟩,
⟨3, ⟨some 13, .q (.load false 1 (.t 12)), none, 7⟩⟩,
⟨4, ⟨some 14, .q (.load true 3 (.t 3)), none, 0⟩⟩,
⟨5, ⟨some 15, .e (.callf 171 [(.t 13), (.t 14)]), none, 31⟩⟩,
⟨6, ⟨some 5, .q (.mov (.t 15)), none, 63⟩⟩]) (
.seq (
.seq (
.region [Q 16 (.mov (.t 5))]) (
.block 0 (
.seq (
.region [Q 18 (.bin .eql .scalar (.t 16) (ci 0)),
Q 17 (.mov (.t 18))]) (
.cond (.t 17) (
.seq (
.region [Q 19 (.mov (.t 0)),
Q 20 (.nilck (.t 19)),
Q 21 (.faddr 3 (.t 20)),
Q 22 (.load false 1 (.t 21)),
Q 23 (.bin .add .scalar (.t 22) (ci 1)),
Q 24 (.nilck (.t 19)),
Q 25 (.faddr 3 (.t 24)),
⟨none, .e (.store 1 (.t 25) (.t 23)), none, 0⟩]) (
.seq (
.region [Q 26 (.mov (.t 5)),
Q 4 (.mov (.t 26))]) (
.ret))) (
.seq (
.seq (
.region [Q 28 (.bin .eql .scalar (.t 16) (ci 7)),
Q 27 (.mov (.t 28))]) (
.cond (.t 27) (
.skip) (
.seq (
.region [Q 29 (.bin .eql .scalar (.t 16) (ci 12)),
Q 27 (.mov (.t 29))]) (
.cond (.t 27) (
.skip) (
.seq (
.region [Q 30 (.bin .eql .scalar (.t 16) (ci 1)),
Q 27 (.mov (.t 30))]) (
.cond (.t 27) (
.skip) (
.seq (
.region [Q 31 (.bin .eql .scalar (.t 16) (ci 11)),
Q 27 (.mov (.t 31))]) (
.cond (.t 27) (
.skip) (
.seq (
.region [Q 32 (.bin .eql .scalar (.t 16) (ci 18)),
Q 27 (.mov (.t 32))]) (
.cond (.t 27) (
.skip) (
.seq (
.region [Q 33 (.bin .eql .scalar (.t 16) (ci 10)),
Q 27 (.mov (.t 33))]) (
.cond (.t 27) (
.skip) (
.region [Q 34 (.bin .eql .scalar (.t 16) (ci 19)),
Q 27 (.mov (.t 34))]))))))))))))) (
.cond (.t 27) (
.seq (
.region [Q 35 (.mov (.t 5)),
Q 4 (.mov (.t 35))]) (
.ret)) (
.skip))))))) (
.seq (
.region [Q 36 (.mov (.t 0)),
Q 37 (.nilck (.t 36)),
Q 38 (.faddr 2 (.t 37)),
⟨none, .e (.store 1 (.t 38) (cb true)), none, 0⟩]) (
.seq (
.region [Q 4 (.mov (ci 17))]) (
.ret))))))
def a122 : AFunc := ⟨c122, [.tmp 4], false⟩
def c123 : ACode :=
.seq (
.region [Q 2 (.mov (.c (.one (dc (.nilp))))),
Q 3 (.mov (ci 0))]) (
.seq (
.seq (
.region [Q 4 (.mov (.t 0)),
Q 5 (.bin .lss .scalar (.t 4) (ci 1)),
Q 6 (.mov (.t 5)),
⟨some 7, .q (.mov (.t 0)), some (6, false), 0⟩,
⟨some 8, .q (.bin .gtr .scalar (.t 7) (ci 4096)), some (6, false), 0⟩,
Q 9 (.pick (.t 6) (cb true) (.t 8))]) (
.cond (.t 9) (
.seq (
.region [Q 2 (.mov (.c (.one (dc (.nilp))))),
Q 3 (.mov (ci 1))]) (
.ret)) (
.skip))) (
.seq (
.region [Q 10 (.mov (.t 0)),
M 11 (.mkmap (.int .i64)),
Q 12 (.build [dc (.int .i64 0), dc (.nilm), dc (.sl [] true), dc (.int .i64 0), dc (.int .i64 0), dc (.bool false), dc (.int .i64 0)] [(0, 1, (.t 10)), (1, 1, (.t 11))]),
M 13 (.box 216 7 (.t 12)),
Q 2 (.mov (.t 13)),
Q 3 (.mov (ci 0))]) (
.ret)))
def a123 : AFunc := ⟨c123, [.tmp 2, .tmp 3], false⟩
def c124 : ACode :=
.seq (
.region [M 1 (.box 24 3 (.t 0)),
Q 2 (.mov (cs []))]) (
.seq (
.seq (
.region [Q 6 (.load true 3 (.t 1)),
E 7 (.callf 172 [(.t 6)]),
Q 8 (.un .not (.t 7))]) (
.cond (.t 8) (
.seq (
.region [Q 2 (.mov (cs []))]) (
.ret)) (
.skip))) (
.seq (
.draw [⟨0, ⟨some 9, .q (.faddr 0 (.t 1)), none, 0⟩⟩,
⟨1, ⟨some 10, .q (.load false 1 (.t 9)), none, 1⟩⟩,
⟨2, ⟨some 11, .q (.conv (.int .u64) (.t 10)), none, 3⟩⟩,
⟨4, ⟨some 13, .q (.faddr 1 (.t 1)), none, 0⟩⟩,
⟨5, ⟨some 14, .q (.load false 1 (.t 13)), none, 16⟩⟩,
⟨6, ⟨some 15, .q (.conv (.int .u64) (.t 14)), none, 48⟩⟩,
⟨9, ⟨some 18, .q (.faddr 2 (.t 1)), none, 0⟩⟩,
⟨10, ⟨some 19, .q (.load false 1 (.t 18)), none, 512⟩⟩,
⟨11, ⟨some 20, .q (.len .sl (.t 19)), none, 1536⟩⟩,
⟨12, ⟨some 21, .q (.conv (.int .u64) (.t 20)), none, 3584⟩⟩,
⟨3, ⟨some 12, .e (.callf 173 [(.t 11)]), none, 7⟩⟩,
⟨7, ⟨some 16, .e (.callf 173 [(.t 15)]), none, 127⟩⟩,
⟨8, ⟨some 17, .q (.bin .add .scalar (.t 12) (.t 16)), none, 255⟩⟩,
⟨13, ⟨some 22, .e (.callf 173 [(.t 21)]), none, 7935⟩⟩,
⟨14, ⟨some 23, .q (.bin .add .scalar (.t 17) (.t 22)), none, 16383⟩⟩,
⟨15, ⟨some 3, .q (.mov (.t 23)), none, 32767⟩⟩]) (
.seq (
.seq (
.region [Q 4 (.mov (ci 0))]) (
.block 0 (
.loop (
.seq (
.seq (
.region [Q 24 (.mov (.t 4)),
Q 25 (.faddr 2 (.t 1)),
Q 26 (.load false 1 (.t 25)),
Q 27 (.len .sl (.t 26)),
Q 28 (.bin .lss .scalar (.t 24) (.t 27))]) (
.cond (.t 28) (
.skip) (
.exit 0))) (
.seq (
.block 1 (
.seq (
.region [Q 31 (.faddr 2 (.t 1)),
Q 32 (.load false 1 (.t 31)),
Q 33 (.mov (.t 4)),
Q 34 (.iaddr 8 none (.t 32) (.t 33)),
Q 35 (.load true 8 (.t 34)),
M 5 (.alloc 116 8 [dc (.int .i64 0), dc (.str []), dc (.sl [] true), dc (.int .i64 0), dc (.int .i64 0), dc (.str []), dc (.sl [] true), dc (.int .i64 0)]),
⟨none, .e (.store 8 (.t 5) (.t 35)), none, 0⟩]) (
.seq (
.region [Q 36 (.mov (.t 3)),
Q 37 (.faddr 0 (.t 5)),
Q 38 (.load false 1 (.t 37)),
Q 39 (.conv (.int .u64) (.t 38)),
E 40 (.callf 173 [(.t 39)]),
Q 41 (.bin .add .scalar (.t 36) (.t 40)),
Q 3 (.mov (.t 41))]) (
.seq (
.region [Q 42 (.faddr 0 (.t 5)),
Q 43 (.load false 1 (.t 42)),
Q 44 (.bin .eql .scalar (.t 43) (ci 3))]) (
.cond (.t 44) (
.region [Q 45 (.mov (.t 3)),
Q 46 (.faddr 5 (.t 5)),
Q 47 (.load true 3 (.t 46)),
E 48 (.callf 175 [(.t 47)]),
E 49 (.callf 174 [(.t 48)]),
Q 50 (.bin .add .scalar (.t 45) (.t 49)),
Q 3 (.mov (.t 50))]) (
.draw [⟨0, ⟨some 51, .q (.mov (.t 3)), none, 0⟩⟩,
⟨1, ⟨some 52, .q (.faddr 1 (.t 5)), none, 0⟩⟩,
⟨2, ⟨some 53, .q (.load false 1 (.t 52)), none, 2⟩⟩,
⟨5, ⟨some 56, .q (.faddr 2 (.t 5)), none, 0⟩⟩,
⟨6, ⟨some 57, .q (.load false 1 (.t 56)), none, 32⟩⟩,
⟨9, ⟨some 60, .q (.faddr 3 (.t 5)), none, 0⟩⟩,
⟨10, ⟨some 61, .q (.faddr 0 (.t 60)), none, 512⟩⟩,
⟨11, ⟨some 62, .q (.load false 1 (.t 61)), none, 1536⟩⟩,
⟨12, ⟨some 63, .q (.conv (.int .u64) (.t 62)), none, 3584⟩⟩,
⟨15, ⟨some 66, .q (.faddr 3 (.t 5)), none, 0⟩⟩,
⟨16, ⟨some 67, .q (.faddr 1 (.t 66)), none, 32768⟩⟩,
⟨17, ⟨some 68, .q (.load false 1 (.t 67)), none, 98304⟩⟩,
⟨18, ⟨some 69, .q (.conv (.int .u64) (.t 68)), none, 229376⟩⟩,
⟨3, ⟨some 54, .e (.callf 174 [(.t 53)]), none, 6⟩⟩,
⟨4, ⟨some 55, .q (.bin .add .scalar (.t 51) (.t 54)), none, 15⟩⟩,
⟨7, ⟨some 58, .e (.callf 176 [(.t 57)]), none, 110⟩⟩,
⟨8, ⟨some 59, .q (.bin .add .scalar (.t 55) (.t 58)), none, 255⟩⟩,
⟨13, ⟨some 64, .e (.callf 173 [(.t 63)]), none, 7918⟩⟩,
⟨14, ⟨some 65, .q (.bin .add .scalar (.t 59) (.t 64)), none, 16383⟩⟩,
⟨19, ⟨some 70, .e (.callf 173 [(.t 69)]), none, 507630⟩⟩,
⟨20, ⟨some 71, .q (.bin .add .scalar (.t 65) (.t 70)), none, 1048575⟩⟩,
⟨21, ⟨some 3, .q (.mov (.t 71)), none, 2097151⟩⟩])))))) (
.region [Q 29 (.mov (.t 4)),
Q 30 (.bin .add .scalar (.t 29) (ci 1)),
Q 4 (.mov (.t 30))])))))) (
.seq (
.seq (
.region [Q 72 (.mov (.t 3)),
Q 73 (.len .str (.t 72)),
Q 74 (.bin .gtr .scalar (.t 73) (ci 100000))]) (
.cond (.t 74) (
.seq (
.region [Q 2 (.mov (cs []))]) (
.ret)) (
.skip))) (
.seq (
.region [Q 75 (.mov (.t 3)),
Q 2 (.mov (.t 75))]) (
.ret))))))
def a124 : AFunc := ⟨c124, [.tmp 2], true⟩
def c125 : ACode :=
.seq (
.region [Q 2 (.mov (cs []))]) (
.seq (
.region [Q 3 (.mov (.t 0)),
Q 4 (.conv (.int .u64) (.t 3)),
E 5 (.callf 177 [(.t 4)]),
Q 6 (.sslice (.t 5) (some (ci 4)) none),
Q 2 (.mov (.t 6))]) (
.ret))
def a125 : AFunc := ⟨c125, [.tmp 2], true⟩
def c126 : ACode :=
.seq (
.region [Q 2 (.mov (cs []))]) (
.seq (
.region [Q 6 (.mov (.t 0)),
E 7 (.callf 178 [(.t 6)]),
Q 3 (.mov (.t 7))]) (
.seq (
.region [Q 8 (.mov (.t 0)),
Q 4 (.mov (.t 8))]) (
.seq (
.seq (
.region [Q 5 (.mov (ci 0))]) (
.block 0 (
.loop (
.seq (
.seq (
.region [Q 9 (.mov (.t 5)),
Q 10 (.bin .lss .scalar (.t 9) (ci 4))]) (
.cond (.t 10) (
.skip) (
.exit 0))) (
.seq (
.block 1 (
.seq (
.region [Q 13 (.mov (.t 4)),
Q 14 (.mov (.t 3)),
Q 15 (.bin .rem .scalar (.t 14) (.c (.one (dc (.int .u32 256))))),
Q 16 (.conv (.int .u8) (.t 15)),
M 17 (.bslice 5 1 1 [dc (.int .u8 0)] [(0, 1, (.t 16))]),
Q 18 (.conv .b2s (.t 17)),
Q 19 (.bin .add .scalar (.t 13) (.t 18)),
Q 4 (.mov (.t 19))]) (
.region [Q 20 (.mov (.t 3)),
Q 21 (.bin .quo .scalar (.t 20) (.c (.one (dc (.int .u32 256))))),
Q 3 (.mov (.t 21))]))) (
.region [Q 11 (.mov (.t 5)),
Q 12 (.bin .add .scalar (.t 11) (ci 1)),
Q 5 (.mov (.t 12))])))))) (
.seq (
.region [Q 22 (.mov (.t 4)),
Q 2 (.mov (.t 22))]) (
.ret)))))
def a126 : AFunc := ⟨c126, [.tmp 2], true⟩
def c132 : ACode :=
.seq (
.region [Q 2 (.mov (ci 0))]) (
.seq (
.block 0 (
.seq (
.region [Q 4 (.mov (.t 0)),
Q 5 (.bin .eql .ptr (.t 4) (.c (.one (dc (.nilp))))),
Q 6 (.mov (.t 5)),
⟨some 7, .q (.mov (.t 0)), some (6, false), 0⟩,
⟨some 8, .q (.nilck (.t 7)), some (6, false), 0⟩,
⟨some 9, .q (.faddr 2 (.t 8)), some (6, false), 0⟩,
⟨some 10, .q (.load false 1 (.t 9)), some (6, false), 0⟩,
⟨some 11, .q (.bin .eql .ptr (.t 10) (.c (.one (dc (.nilp))))), some (6, false), 0⟩,
Q 12 (.pick (.t 6) (cb true) (.t 11)),
Q 3 (.mov (.t 12))]) (
.cond (.t 3) (
.seq (
.region [Q 2 (.mov (ci 13))]) (
.ret)) (
.seq (
.region [Q 14 (.mov (.t 0)),
Q 15 (.nilck (.t 14)),
Q 16 (.faddr 5 (.t 15)),
Q 17 (.load false 1 (.t 16)),
Q 13 (.mov (.t 17))]) (
.cond (.t 13) (
.seq (
.region [Q 2 (.mov (ci 17))]) (
.ret)) (
.skip)))))) (
.seq (
.region [Q 2 (.mov (ci 0))]) (
.ret)))
def a132 : AFunc := ⟨c132, [.tmp 2], false⟩
def c134 : ACode :=
.seq (
.region [Q 2 (.mov (ci 0))]) (
.seq (
.seq (
.region [Q 3 (.mov (.t 0)),
Q 4 (.bin .eql .ptr (.t 3) (.c (.one (dc (.nilp)))))]) (
.cond (.t 4) (
.seq (
.region [Q 2 (.mov (ci 0))]) (
.ret)) (
.skip))) (
.seq (
.region [Q 5 (.mov (.t 0)),
Q 6 (.nilck (.t 5)),
Q 7 (.faddr 0 (.t 6)),
Q 8 (.load false 1 (.t 7)),
Q 2 (.mov (.t 8))]) (
.ret)))
def a134 : AFunc := ⟨c134, [.tmp 2], false⟩
def c135 : ACode :=
.seq (
.region [M 3 (.box 219 2 (.t 1))]) (
.seq (
.seq (
.draw [⟨0, ⟨some 4, .q (.faddr 1 (.t 3)), none, 0⟩⟩,
⟨1, ⟨some 5, .q (.load false 1 (.t 4)), none, 1⟩⟩,
⟨2, ⟨some 6, .e (.callf 192 []), none, 0⟩⟩,
⟨3, ⟨some 7, .q (.bin .eql .scalar (.t 5) (.t 6)), none, 7⟩⟩]) (
.cond (.t 7) (
.seq (
.draw [⟨0, ⟨some 8, .q (.mov (.t 0)), none, 0⟩⟩,
⟨1, ⟨some 9, .q (.nilck (.t 8)), none, 1⟩⟩,
⟨2, ⟨some 10, .q (.faddr 1 (.t 9)), none, 3⟩⟩,
⟨3, ⟨some 11, .q (.load false 1 (.t 10)), none, 7⟩⟩,
⟨4, ⟨some 12, .q (.faddr 0 (.t 3)), none, 0⟩⟩,
⟨5, ⟨some 13, .q (.load false 1 (.t 12)), none, 16⟩⟩,
⟨6, ⟨none, .e (.del (.int .i64) (.t 11) (.t 13)), none, 63⟩⟩]) (
.ret)) (
.skip))) (
.draw [⟨0, ⟨some 14, .q (.mov (.t 0)), none, 0⟩⟩,
⟨1, ⟨some 15, .q (.nilck (.t 14)), none, 1⟩⟩,
⟨2, ⟨some 16, .q (.faddr 1 (.t 15)), none, 3⟩⟩,
⟨3, ⟨some 17, .q (.load false 1 (.t 16)), none, 7⟩⟩,
⟨4, ⟨some 18, .q (.faddr 0 (.t 3)), none, 0⟩⟩,
⟨5, ⟨some 19, .q (.load false 1 (.t 18)), none, 16⟩⟩,
⟨6, ⟨some 20, .q (.faddr 1 (.t 3)), none, 0⟩⟩,
⟨7, ⟨some 21, .q (.load false 1 (.t 20)), none, 64⟩⟩,
⟨8, ⟨none, .e (.mapup (.int .i64) (.t 17) (.t 19) (.t 21)), none, 255⟩⟩]))
def a135 : AFunc := ⟨c135, [], false⟩
def c136 : ACode :=
.seq (
.region [Q 4 (.mov (.c (.one (dc (.nilp))))),
Q 5 (.mov (ci 0))]) (
.seq (
.seq (
.region [Q 11 (.mov (.t 0)),
E 12 (.callf 134 [(.t 11)]),
Q 13 (.mov (.t 1)),
Q 14 (.bin .sub .scalar (.t 12) (.t 13)),
Q 6 (.mov (.t 14))]) (
.seq (
.region [Q 15 (.mov (.t 0)),
E 16 (.callf 134 [(.t 15)]),
Q 17 (.bin .eql .scalar (.t 16) (ci 0)),
Q 18 (.mov (.t 17)),
⟨some 19, .q (.mov (.t 6)), some (18, false), 0⟩,
⟨some 20, .q (.bin .lss .scalar (.t 19) (ci 1)), some (18, false), 0⟩,
Q 21 (.pick (.t 18) (cb true) (.t 20)),
Q 22 (.mov (.t 21)),
⟨some 23, .q (.mov (.t 6)), some (22, false), 0⟩,
⟨some 24, .q (.bin .gtr .scalar (.t 23) (ci 1024)), some (22, false), 0⟩,
Q 25 (.pick (.t 22) (cb true) (.t 24))]) (
.cond (.t 25) (
.seq (
.region [Q 4 (.mov (.c (.one (dc (.nilp))))),
Q 5 (.mov (ci 1))]) (
.ret)) (
.skip)))) (
.seq (
.region [Q 27 (.mov (.t 0)),
Q 28 (.mov (.t 1)),
E 29 (.callf 193 [(.t 27), (ci 0), (.t 28)]),
Q 26 (.mov (.t 29)),
Q 30 (.extract 0 (.t 26)),
Q 31 (.extract 1 (.t 26)),
Q 7 (.mov (.t 30)),
Q 8 (.mov (.t 31))]) (
.seq (
.seq (
.region [Q 32 (.mov (.t 8)),
Q 33 (.bin .neq .scalar (.t 32) (ci 0))]) (
.cond (.t 33) (
.seq (
.region [Q 34 (.mov (.t 8)),
Q 4 (.mov (.c (.one (dc (.nilp))))),
Q 5 (.mov (.t 34))]) (
.ret)) (
.skip))) (
.seq (
.region [Q 35 (.mov (.t 0)),
Q 36 (.mov (.t 7)),
Q 37 (.mov (.t 1)),
M 38 (.mkmap (.int .i64)),
Q 39 (.build [dc (.nilp), dc (.nilp), dc (.int .i64 0), dc (.nilm), dc (.bool false)] [(0, 1, (.t 35)), (1, 1, (.t 36)), (2, 1, (.t 37)), (3, 1, (.t 38))]),
M 40 (.box 263 5 (.t 39)),
Q 9 (.mov (.t 40))]) (
.seq (
.seq (
.region [Q 41 (.mov (.t 9)),
E 42 (.callf 194 [(.t 41)]),
Q 10 (.mov (.t 42))]) (
.seq (
.region [Q 43 (.mov (.t 10)),
Q 44 (.bin .neq .scalar (.t 43) (ci 0))]) (
.cond (.t 44) (
.seq (
.region [Q 45 (.mov (.t 10)),
Q 4 (.mov (.c (.one (dc (.nilp))))),
Q 5 (.mov (.t 45))]) (
.ret)) (
.skip)))) (
.seq (
.region [Q 46 (.mov (.t 9)),
Q 4 (.mov (.t 46)),
Q 5 (.mov (ci 0))]) (
.ret)))))))
def a136 : AFunc := ⟨c136, [.tmp 4, .tmp 5], false⟩
def c137 : ACode :=
.seq (
.region [Q 2 (.mov (.c (.one (dc (.nilp))))),
Q 3 (.mov (ci 0))]) (
.seq (
.seq (
.region [Q 6 (.mov (.t 0)),
E 7 (.callf 195 [(.t 6)]),
Q 8 (.bin .lss .scalar (.t 7) (ci 2))]) (
.cond (.t 8) (
.seq (
.region [Q 2 (.mov (.c (.one (dc (.nilp))))),
Q 3 (.mov (ci 1))]) (
.ret)) (
.skip))) (
.seq (
.seq (
.region [Q 9 (.mov (.t 0)),
E 10 (.callf 196 [(.t 9), (ci 1)])]) (
.cond (.t 10) (
.seq (
.region [Q 11 (.mov (.t 0)),
E 12 (.callf 197 [(.t 11)])]) (
.region [Q 13 (.mov (.t 0)),
M 14 (.bslice 5 1 1 [dc (.int .u8 0)] [(0, 1, (.c (.one (dc (.int .u8 82)))))]),
Q 15 (.conv .b2s (.t 14)),
E 16 (.callf 198 [(.t 13), (ci 1), (.t 15)])])) (
.skip))) (
.seq (
.seq (
.region [Q 18 (.mov (.t 0)),
E 19 (.callf 199 [(.t 18), (ci 1)]),
Q 17 (.mov (.t 19)),
Q 20 (.extract 0 (.t 17)),
Q 21 (.extract 1 (.t 17)),
Q 4 (.mov (.t 20)),
Q 5 (.mov (.t 21))]) (
.seq (
.region [Q 22 (.mov (.t 4)),
Q 23 (.sidx (.t 22) (ci 0)),
Q 24 (.bin .neq .scalar (.t 23) (.c (.one (dc (.int .u8 82)))))]) (
.cond (.t 24) (
.seq (
.region [Q 2 (.mov (.c (.one (dc (.nilp))))),
Q 3 (.mov (ci 7))]) (
.ret)) (
.skip)))) (
.seq (
.region [Q 25 (.mov (.t 0)),
Q 26 (.build [dc (.nilp)] [(0, 1, (.t 25))]),
M 27 (.box 268 1 (.t 26)),
Q 2 (.mov (.t 27)),
Q 3 (.mov (ci 0))]) (
.ret)))))
def a137 : AFunc := ⟨c137, [.tmp 2, .tmp 3], false⟩
def c138 : ACode :=
.seq (
.region [M 1 (.box 59 1 (.t 0)),
Q 2 (.mov (ci 0))]) (
.seq (
.block 0 (
.seq (
.region [Q 9 (.load false 1 (.t 1)),
E 10 (.callf 200 [(.t 9)]),
Q 11 (.un .not (.t 10)),
Q 8 (.mov (.t 11))]) (
.cond (.t 8) (
.seq (
.region [Q 2 (.mov (ci 13))]) (
.ret)) (
.seq (
.region [Q 13 (.load false 1 (.t 1)),
Q 14 (.nilck (.t 13)),
Q 15 (.faddr 4 (.t 14)),
Q 16 (.load false 1 (.t 15)),
Q 12 (.mov (.t 16))]) (
.cond (.t 12) (
.seq (
.region [Q 2 (.mov (ci 6))]) (
.ret)) (
.seq (
.region [Q 18 (.load false 1 (.t 1)),
Q 19 (.nilck (.t 18)),
Q 20 (.faddr 3 (.t 19)),
Q 21 (.load false 1 (.t 20)),
Q 22 (.len .map (.t 21)),
Q 23 (.bin .eql .scalar (.t 22) (ci 0)),
Q 17 (.mov (.t 23))]) (
.cond (.t 17) (
.seq (
.region [Q 2 (.mov (ci 0))]) (
.ret)) (
.skip)))))))) (
.seq (
.draw [⟨0, ⟨some 24, .q (.load false 1 (.t 1)), none, 0⟩⟩,
⟨1, ⟨some 25, .q (.load false 1 (.t 1)), none, 0⟩⟩,
⟨2, ⟨some 26, .q (.nilck (.t 25)), none, 2⟩⟩,
⟨3, ⟨some 27, .q (.faddr 3 (.t 26)), none, 6⟩⟩,
⟨4, ⟨some 28, .q (.load false 1 (.t 27)), none, 14⟩⟩,
⟨6, ⟨some 3, .m (.alloc 9 1 [dc (.str [])]), none, 0⟩⟩,
⟨5, ⟨some 29, .e (.callf 201 [(.t 24), (.t 28)]), none, 31⟩⟩,
⟨7, ⟨none, .e (.store 1 (.t 3) (.t 29)), none, 127⟩⟩]) (
.seq (
.seq (
.draw [⟨0, ⟨some 30, .q (.load false 1 (.t 1)), none, 0⟩⟩,
⟨1, ⟨some 31, .q (.nilck (.t 30)), none, 1⟩⟩,
⟨2, ⟨some 32, .q (.faddr 1 (.t 31)), none, 3⟩⟩,
⟨3, ⟨some 33, .q (.load false 1 (.t 32)), none, 7⟩⟩,
⟨4, ⟨some 34, .q (.load false 1 (.t 3)), none, 0⟩⟩,
⟨5, ⟨some 35, .q (.len .str (.t 34)), none, 16⟩⟩,
⟨6, ⟨some 36, .e (.callf 202 [(.t 33), (.t 35)]), none, 63⟩⟩,
⟨7, ⟨some 37, .q (.un .not (.t 36)), none, 127⟩⟩]) (
.cond (.t 37) (
.seq (
.region [Q 2 (.mov (ci 3))]) (
.ret)) (
.skip))) (
.seq (
.draw [⟨0, ⟨some 38, .q (.mkfn (.func 203) 203 [] [(.t 1), (.t 3)]), none, 0⟩⟩,
⟨1, ⟨some 39, .q (.load false 1 (.t 1)), none, 0⟩⟩,
⟨2, ⟨some 40, .q (.nilck (.t 39)), none, 2⟩⟩,
⟨3, ⟨some 41, .q (.faddr 1 (.t 40)), none, 6⟩⟩,
⟨4, ⟨some 42, .q (.load false 1 (.t 41)), none, 14⟩⟩,
⟨5, ⟨some 43, .q (.mkfn (.func 205) 205 [(.t 42)] []), none, 30⟩⟩,
⟨6, ⟨some 44, .q (.mkfn (.func 206) 206 [] [(.t 1)]), none, 0⟩⟩,
⟨7, ⟨some 45, .q (.load false 1 (.t 1)), none, 0⟩⟩,
⟨8, ⟨some 46, .q (.mkfn (.func 208) 208 [(.t 45)] []), none, 128⟩⟩,
⟨9, ⟨some 47, .m (.bslice 84 1 4 [dc (.nilf), dc (.nilf), dc (.nilf), dc (.nilf)] [(0, 1, (.t 38)), (1, 1, (.t 43)), (2, 1, (.t 44)), (3, 1, (.t 46))]), none, 511⟩⟩,
⟨10, ⟨some 4, .q (.mov (.t 47)), none, 1023⟩⟩]) (
.seq (
.seq (
.region [Q 48 (.mov (.t 4)),
Q 49 (.len .sl (.t 48)),
Q 50 (.mov (ci 0))]) (
.block 1 (
.loop (
.seq (
.region [Q 51 (.bin .lss .scalar (.t 50) (.t 49))]) (
.seq (
.cond (.t 51) (
.skip) (
.exit 1)) (
.seq (
.block 2 (
.seq (
.region [Q 52 (.iaddr 1 none (.t 48) (.t 50)),
Q 53 (.load false 1 (.t 52)),
Q 6 (.mov (.t 53))]) (
.seq (
.region [Q 54 (.mov (.t 6)),
E 55 (.callv (.t 54) []),
Q 7 (.mov (.t 55))]) (
.seq (
.region [Q 56 (.mov (.t 7)),
Q 57 (.bin .neq .scalar (.t 56) (ci 0))]) (
.cond (.t 57) (
.seq (
.region [Q 58 (.load false 1 (.t 1)),
Q 59 (.nilck (.t 58)),
Q 60 (.faddr 4 (.t 59)),
⟨none, .e (.store 1 (.t 60) (cb true)), none, 0⟩]) (
.seq (
.region [Q 61 (.mov (.t 7)),
Q 2 (.mov (.t 61))]) (
.ret))) (
.skip)))))) (
.region [Q 62 (.bin .add .scalar (.t 50) (ci 1)),
Q 50 (.mov (.t 62))]))))))) (
.seq (
.region [Q 63 (.load false 1 (.t 1)),
E 64 (.callf 209 [(.t 63)])]) (
.seq (
.region [Q 2 (.mov (ci 0))]) (
.ret))))))))
def a138 : AFunc := ⟨c138, [.tmp 2], false⟩
def c139 : ACode :=
.seq (
.region [Q 2 (.mov (cs [])),
Q 3 (.mov (ci 0))]) (
.seq (
.block 0 (
.seq (
.region [Q 5 (.mov (.t 0)),
E 6 (.callf 210 [(.t 5)]),
Q 7 (.un .not (.t 6)),
Q 4 (.mov (.t 7))]) (
.cond (.t 4) (
.seq (
.region [Q 2 (.mov (cs [])),
Q 3 (.mov (ci 13))]) (
.ret)) (
.seq (
.region [Q 9 (.mov (.t 0)),
E 10 (.callf 211 [(.t 9)]),
Q 11 (.bin .eql .scalar (.t 10) (ci 0)),
Q 8 (.mov (.t 11))]) (
.cond (.t 8) (
.seq (
.region [Q 2 (.mov (cs [])),
Q 3 (.mov (ci 4))]) (
.ret)) (
.skip)))))) (
.seq (
.region [Q 12 (.mov (.t 0)),
Q 13 (.mov (.t 0)),
E 14 (.callf 211 [(.t 13)]),
E 15 (.callf 212 [(.t 12), (.t 14)]),
Q 16 (.extract 0 (.t 15)),
Q 17 (.extract 1 (.t 15)),
Q 2 (.mov (.t 16)),
Q 3 (.mov (.t 17))]) (
.ret)))
def a139 : AFunc := ⟨c139, [.tmp 2, .tmp 3], false⟩
def c140 : ACode :=
.seq (
.region [M 2 (.alloc 63 2 [dc (.int .i64 0), dc (.sl [] true)]),
Q 3 (.mov (cb false))]) (
.seq (
.region [Q 8 (.mov (.t 0)),
E 9 (.callf 114 [(.t 8)]),
M 4 (.alloc 186 1 [dc (.nilp)]),
⟨none, .e (.store 1 (.t 4) (.t 9)), none, 0⟩]) (
.seq (
.region [Q 10 (.mkfn (.func 213) 213 [] [(.t 4)]),
Q 5 (.mov (.t 10))]) (
.seq (
.region [Q 11 (.mov (.t 5)),
E 12 (.callv (.t 11) []),
Q 13 (.build [dc (.int .i64 0), dc (.sl [] true)] [(0, 1, (.t 12))]),
M 6 (.alloc 63 2 [dc (.int .i64 0), dc (.sl [] true)]),
⟨none, .e (.store 2 (.t 6) (.t 13)), none, 0⟩]) (
.seq (
.seq (
.region [Q 14 (.load false 1 (.t 4)),
E 15 (.callf 160 [(.t 14)]),
Q 7 (.mov (.t 15))]) (
.block 0 (
.loop (
.seq (
.seq (
.region [Q 16 (.mov (.t 7)),
Q 17 (.bin .gtr .scalar (.t 16) (.c (.one (dc (.int .u64 0))))),
Q 18 (.mov (.t 17)),
⟨some 19, .q (.load false 1 (.t 4)), some (18, true), 0⟩,
⟨some 20, .e (.callf 119 [(.t 19)]), some (18, true), 0⟩,
⟨some 21, .q (.bin .eql .scalar (.t 20) (ci 0)), some (18, true), 0⟩,
Q 22 (.pick (.t 18) (.t 21) (cb false))]) (
.cond (.t 22) (
.skip) (
.exit 0))) (
.seq (
.block 1 (
.draw [⟨0, ⟨some 25, .q (.faddr 1 (.t 6)), none, 0⟩⟩,
⟨1, ⟨some 26, .q (.load false 1 (.t 25)), none, 1⟩⟩,
⟨2, ⟨some 27, .q (.mov (.t 5)), none, 0⟩⟩,
⟨3, ⟨some 28, .e (.callv (.t 27) []), none, 4⟩⟩,
⟨4, ⟨some 29, .m (.bslice 3 1 1 [dc (.int .i64 0)] [(0, 1, (.t 28))]), none, 12⟩⟩,
⟨5, ⟨some 30, .e (.append 3 1 8 (.t 26) (.t 29)), none, 31⟩⟩,
⟨6, ⟨some 31, .q (.faddr 1 (.t 6)), none, 63⟩⟩,
⟨7, ⟨none, .e (.store 1 (.t 31) (.t 30)), none, 127⟩⟩])) (
.region [Q 23 (.mov (.t 7)),
Q 24 (.bin .sub .scalar (.t 23) (.c (.one (dc (.int .u64 1))))),
Q 7 (.mov (.t 24))])))))) (
.seq (
.draw [⟨0, ⟨some 32, .q (.load true 2 (.t 6)), none, 0⟩⟩,
⟨1, ⟨some 33, .q (.load false 1 (.t 4)), none, 0⟩⟩,
⟨2, ⟨some 34, .e (.callf 119 [(.t 33)]), none, 2⟩⟩,
⟨3, ⟨some 35, .q (.bin .eql .scalar (.t 34) (ci 0)), none, 6⟩⟩,
⟨4, ⟨some 36, .q (.mov (.t 35)), none, 14⟩⟩,
⟨5, ⟨some 37, .q (.load true 2 (.t 6)), some (36, true), 30⟩⟩,
⟨7, ⟨some 39, .q (.mov (.t 0)), some (36, true), 30⟩⟩,
⟨6, ⟨some 38, .e (.callf 214 [(.t 37)]), some (36, true), 62⟩⟩,
⟨8, ⟨some 40, .q (.bin .eql .scalar (.t 38) (.t 39)), some (36, true), 254⟩⟩,
⟨9, ⟨some 41, .q (.pick (.t 36) (.t 40) (cb false)), none, 510⟩⟩,
⟨10, ⟨none, .e (.store 2 (.t 2) (.t 32)), none, 127⟩⟩,
⟨11, ⟨some 3, .q (.mov (.t 41)), none, 2047⟩⟩]) (
.ret))))))
def a140 : AFunc := ⟨c140, [.cell 2 true 2, .tmp 3], false⟩
def c141 : ACode :=
.seq (
.region [Q 2 (.mov (cb false))]) (
.seq (
.seq (
.region [Q 10 (.mov (.t 0)),
Q 11 (.nilck (.t 10)),
Q 12 (.faddr 3 (.t 11)),
Q 13 (.faddr 0 (.t 12)),
Q 14 (.load false 1 (.t 13)),
Q 15 (.bin .gtr .scalar (.t 14) (ci 0))]) (
.cond (.t 15) (
.seq (
.draw [⟨0, ⟨some 17, .q (.mov (.t 0)), none, 0⟩⟩,
⟨1, ⟨some 18, .q (.nilck (.t 17)), none, 1⟩⟩,
⟨2, ⟨some 19, .q (.faddr 1 (.t 18)), none, 3⟩⟩,
⟨3, ⟨some 20, .q (.load false 1 (.t 19)), none, 7⟩⟩,
⟨4, ⟨some 21, .q (.mov (.t 0)), none, 0⟩⟩,
⟨5, ⟨some 22, .q (.nilck (.t 21)), none, 16⟩⟩,
⟨6, ⟨some 23, .q (.faddr 3 (.t 22)), none, 48⟩⟩,
⟨7, ⟨some 24, .q (.faddr 0 (.t 23)), none, 112⟩⟩,
⟨8, ⟨some 25, .q (.load false 1 (.t 24)), none, 240⟩⟩,
⟨9, ⟨some 26, .e (.callf 212 [(.t 20), (.t 25)]), none, 511⟩⟩,
⟨10, ⟨some 16, .q (.mov (.t 26)), none, 1023⟩⟩,
⟨11, ⟨some 27, .q (.extract 0 (.t 16)), none, 2047⟩⟩,
⟨12, ⟨some 28, .q (.extract 1 (.t 16)), none, 2047⟩⟩,
⟨13, ⟨some 3, .q (.mov (.t 27)), none, 4095⟩⟩,
⟨14, ⟨some 4, .q (.mov (.t 28)), none, 16383⟩⟩]) (
.seq (
.seq (
.region [Q 29 (.mov (.t 4)),
Q 30 (.bin .neq .scalar (.t 29) (ci 0))]) (
.cond (.t 30) (
.seq (
.region [Q 2 (.mov (cb false))]) (
.ret)) (
.skip))) (
.seq (
.region [Q 32 (.mov (.t 0)),
Q 33 (.mov (.t 3)),
E 34 (.callf 64 [(.t 33)]),
Q 31 (.mov (.t 34)),
Q 35 (.extract 0 (.t 31)),
Q 36 (.extract 1 (.t 31)),
Q 37 (.nilck (.t 32)),
Q 38 (.faddr 2 (.t 37)),
⟨none, .e (.store 1 (.t 38) (.t 35)), none, 0⟩,
Q 4 (.mov (.t 36))]) (
.seq (
.region [Q 39 (.mov (.t 4)),
Q 40 (.bin .neq .scalar (.t 39) (ci 0))]) (
.cond (.t 40) (
.seq (
.region [Q 2 (.mov (cb false))]) (
.ret)) (
.skip)))))) (
.skip))) (
.seq (
.seq (
.region [Q 41 (.mov (.t 0)),
Q 42 (.nilck (.t 41)),
Q 43 (.faddr 3 (.t 42)),
Q 44 (.faddr 1 (.t 43)),
Q 45 (.load false 1 (.t 44)),
Q 46 (.len .sl (.t 45)),
Q 47 (.mov (ci 0))]) (
.block 0 (
.loop (
.seq (
.region [Q 48 (.bin .lss .scalar (.t 47) (.t 46))]) (
.seq (
.cond (.t 48) (
.skip) (
.exit 0)) (
.seq (
.block 1 (
.seq (
.region [Q 49 (.iaddr 1 none (.t 45) (.t 47)),
Q 50 (.load false 1 (.t 49)),
Q 6 (.mov (.t 50))]) (
.seq (
.region [Q 52 (.mov (.t 0)),
Q 53 (.nilck (.t 52)),
Q 54 (.faddr 1 (.t 53)),
Q 55 (.load false 1 (.t 54)),
Q 56 (.mov (.t 6)),
E 57 (.callf 212 [(.t 55), (.t 56)]),
Q 51 (.mov (.t 57)),
Q 58 (.extract 0 (.t 51)),
Q 59 (.extract 1 (.t 51)),
Q 7 (.mov (.t 58)),
Q 8 (.mov (.t 59))]) (
.seq (
.seq (
.region [Q 60 (.mov (.t 8)),
Q 61 (.bin .neq .scalar (.t 60) (ci 0))]) (
.cond (.t 61) (
.seq (
.region [Q 2 (.mov (cb false))]) (
.ret)) (
.skip))) (
.seq (
.region [Q 63 (.mov (.t 7)),
E 64 (.callf 121 [(.t 63)]),
Q 62 (.mov (.t 64)),
Q 65 (.extract 0 (.t 62)),
Q 66 (.extract 1 (.t 62)),
M 9 (.alloc 24 3 [dc (.int .i64 0), dc (.int .i64 0), dc (.sl [] true)]),
⟨none, .e (.store 3 (.t 9) (.t 65)), none, 0⟩,
Q 8 (.mov (.t 66))]) (
.seq (
.draw [⟨0, ⟨some 67, .q (.mov (.t 8)), none, 0⟩⟩,
⟨1, ⟨some 68, .q (.bin .neq .scalar (.t 67) (ci 0)), none, 1⟩⟩,
⟨2, ⟨some 69, .q (.mov (.t 68)), none, 3⟩⟩,
⟨3, ⟨some 70, .q (.mov (.t 0)), some (69, false), 7⟩⟩,
⟨4, ⟨some 71, .q (.nilck (.t 70)), some (69, false), 15⟩⟩,
⟨5, ⟨some 72, .q (.faddr 2 (.t 71)), some (69, false), 31⟩⟩,
⟨6, ⟨some 73, .q (.load false 1 (.t 72)), some (69, false), 63⟩⟩,
⟨7, ⟨some 74, .q (.load true 3 (.t 9)), some (69, false), 7⟩⟩,
⟨8, ⟨some 75, .e (.callf 10 [(.t 73), (.t 74)]), some (69, false), 255⟩⟩,
⟨9, ⟨some 76, .q (.bin .neq .scalar (.t 75) (ci 0)), some (69, false), 511⟩⟩,
⟨10, ⟨some 77, .q (.pick (.t 69) (cb true) (.t 76)), none, 1023⟩⟩]) (
.cond (.t 77) (
.seq (
.region [Q 2 (.mov (cb false))]) (
.ret)) (
.skip)))))))) (
.region [Q 78 (.bin .add .scalar (.t 47) (ci 1)),
Q 47 (.mov (.t 78))]))))))) (
.seq (
.region [Q 2 (.mov (cb true))]) (
.ret))))
def a141 : AFunc := ⟨c141, [.tmp 2], false⟩
def c142 : ACode :=
.seq (
.region [M 2 (.box 105 5 (.t 0)),
M 3 (.box 105 5 (.t 1)),
Q 4 (.mov (cb false))]) (
.seq (
.seq (
.region [Q 5 (.faddr 0 (.t 2)),
Q 6 (.faddr 0 (.t 5)),
Q 7 (.load false 1 (.t 6)),
Q 8 (.faddr 0 (.t 3)),
Q 9 (.faddr 0 (.t 8)),
Q 10 (.load false 1 (.t 9)),
Q 11 (.bin .eql .scalar (.t 7) (.t 10))]) (
.cond (.t 11) (
.seq (
.region [Q 12 (.faddr 2 (.t 2)),
Q 13 (.faddr 0 (.t 12)),
Q 14 (.faddr 0 (.t 13)),
Q 15 (.load false 1 (.t 14)),
Q 16 (.faddr 2 (.t 3)),
Q 17 (.faddr 0 (.t 16)),
Q 18 (.faddr 0 (.t 17)),
Q 19 (.load false 1 (.t 18)),
Q 20 (.bin .lss .scalar (.t 15) (.t 19)),
Q 4 (.mov (.t 20))]) (
.ret)) (
.skip))) (
.seq (
.region [Q 21 (.faddr 0 (.t 2)),
Q 22 (.faddr 0 (.t 21)),
Q 23 (.load false 1 (.t 22)),
Q 24 (.faddr 0 (.t 3)),
Q 25 (.faddr 0 (.t 24)),
Q 26 (.load false 1 (.t 25)),
Q 27 (.bin .lss .scalar (.t 23) (.t 26)),
Q 4 (.mov (.t 27))]) (
.ret)))
def a142 : AFunc := ⟨c142, [.tmp 4], true⟩
def c143 : ACode :=
.seq (
.region [M 2 (.box 105 5 (.t 0)),
M 3 (.box 105 5 (.t 1)),
Q 4 (.mov (cb false))]) (
.seq (
.region [Q 10 (.faddr 0 (.t 2)),
Q 11 (.load true 2 (.t 10)),
Q 12 (.faddr 0 (.t 3)),
Q 13 (.load true 2 (.t 12)),
E 14 (.callf 215 [(.t 11), (.t 13)]),
Q 9 (.mov (.t 14)),
Q 15 (.extract 0 (.t 9)),
Q 16 (.extract 1 (.t 9)),
M 5 (.alloc 26 2 [dc (.int .i64 0), dc (.int .i64 0)]),
⟨none, .e (.store 2 (.t 5) (.t 15)), none, 0⟩,
Q 6 (.mov (.t 16))]) (
.seq (
.region [Q 18 (.faddr 2 (.t 2)),
Q 19 (.faddr 0 (.t 18)),
Q 20 (.load true 2 (.t 19)),
Q 21 (.faddr 2 (.t 3)),
Q 22 (.faddr 0 (.t 21)),
Q 23 (.load true 2 (.t 22)),
E 24 (.callf 215 [(.t 20), (.t 23)]),
Q 17 (.mov (.t 24)),
Q 25 (.extract 0 (.t 17)),
Q 26 (.extract 1 (.t 17)),
M 7 (.alloc 26 2 [dc (.int .i64 0), dc (.int .i64 0)]),
⟨none, .e (.store 2 (.t 7) (.t 25)), none, 0⟩,
Q 8 (.mov (.t 26))]) (
.seq (
.region [Q 27 (.mov (.t 6)),
Q 28 (.mov (.t 27)),
⟨some 29, .q (.mov (.t 8)), some (28, true), 0⟩,
Q 30 (.pick (.t 28) (.t 29) (cb false)),
Q 4 (.mov (.t 30))]) (
.ret))))
def a143 : AFunc := ⟨c143, [.tmp 4], true⟩
def c144 : ACode :=
.seq (
.region [M 1 (.box 36 3 (.t 0)),
Q 2 (.mov (cb false))]) (
.seq (
.seq (
.region [Q 6 (.faddr 0 (.t 1)),
Q 7 (.load false 1 (.t 6)),
E 8 (.callf 216 [(.t 7)]),
Q 9 (.un .not (.t 8)),
Q 10 (.mov (.t 9)),
⟨some 11, .q (.faddr 1 (.t 1)), some (10, false), 0⟩,
⟨some 12, .q (.load false 1 (.t 11)), some (10, false), 0⟩,
⟨some 13, .q (.len .sl (.t 12)), some (10, false), 0⟩,
⟨some 14, .q (.bin .gtr .scalar (.t 13) (ci 16)), some (10, false), 0⟩,
Q 15 (.pick (.t 10) (cb true) (.t 14)),
Q 16 (.mov (.t 15)),
⟨some 17, .q (.faddr 2 (.t 1)), some (16, false), 0⟩,
⟨some 18, .q (.load false 1 (.t 17)), some (16, false), 0⟩,
⟨some 19, .q (.bin .lss .scalar (.t 18) (ci 1)), some (16, false), 0⟩,
Q 20 (.pick (.t 16) (cb true) (.t 19)),
Q 21 (.mov (.t 20)),
⟨some 22, .q (.faddr 2 (.t 1)), some (21, false), 0⟩,
⟨some 23, .q (.load false 1 (.t 22)), some (21, false), 0⟩,
⟨some 24, .q (.faddr 1 (.t 1)), some (21, false), 0⟩,
⟨some 25, .q (.load false 1 (.t 24)), some (21, false), 0⟩,
⟨some 26, .q (.len .sl (.t 25)), some (21, false), 0⟩,
⟨some 27, .q (.mnmx false (ci 8) (.t 26)), some (21, false), 0⟩,
⟨some 28, .q (.bin .gtr .scalar (.t 23) (.t 27)), some (21, false), 0⟩,
Q 29 (.pick (.t 21) (cb true) (.t 28))]) (
.cond (.t 29) (
.seq (
.region [Q 2 (.mov (cb false))]) (
.ret)) (
.skip))) (
.seq (
.region [M 30 (.mkmap .str),
Q 3 (.mov (.t 30))]) (
.seq (
.seq (
.region [Q 31 (.faddr 1 (.t 1)),
Q 32 (.load false 1 (.t 31)),
Q 33 (.len .sl (.t 32)),
Q 34 (.mov (ci 0))]) (
.block 0 (
.loop (
.seq (
.region [Q 35 (.bin .lss .scalar (.t 34) (.t 33))]) (
.seq (
.cond (.t 35) (
.skip) (
.exit 0)) (
.seq (
.block 1 (
.seq (
.region [Q 36 (.mov (.t 34)),
Q 37 (.iaddr 3 none (.t 32) (.t 34)),
Q 38 (.load true 3 (.t 37)),
M 5 (.alloc 185 3 [dc (.str []), dc (.int .i64 0), dc (.bool false)]),
Q 4 (.mov (.t 36)),
⟨none, .e (.store 3 (.t 5) (.t 38)), none, 0⟩]) (
.seq (
.seq (
.region [Q 39 (.faddr 0 (.t 5)),
Q 40 (.load false 1 (.t 39)),
E 41 (.callf 216 [(.t 40)]),
Q 42 (.un .not (.t 41)),
Q 43 (.mov (.t 42)),
⟨some 44, .q (.mov (.t 3)), some (43, false), 0⟩,
⟨some 45, .q (.faddr 0 (.t 5)), some (43, false), 0⟩,
⟨some 46, .q (.load false 1 (.t 45)), some (43, false), 0⟩,
⟨some 47, .q (.lookup .str (.one (dc (.int .i64 0))) false (.t 44) (.t 46)), some (43, false), 0⟩,
⟨some 48, .q (.bin .gtr .scalar (.t 47) (ci 0)), some (43, false), 0⟩,
Q 49 (.pick (.t 43) (cb true) (.t 48)),
Q 50 (.mov (.t 49)),
⟨some 51, .q (.faddr 1 (.t 5)), some (50, false), 0⟩,
⟨some 52, .q (.load false 1 (.t 51)), some (50, false), 0⟩,
⟨some 53, .q (.bin .lss .scalar (.t 52) (ci 1)), some (50, false), 0⟩,
Q 54 (.pick (.t 50) (cb true) (.t 53)),
Q 55 (.mov (.t 54)),
⟨some 56, .q (.faddr 1 (.t 5)), some (55, false), 0⟩,
⟨some 57, .q (.load false 1 (.t 56)), some (55, false), 0⟩,
⟨some 58, .q (.bin .gtr .scalar (.t 57) (ci 5)), some (55, false), 0⟩,
Q 59 (.pick (.t 55) (cb true) (.t 58)),
Q 60 (.mov (.t 59)),
⟨some 61, .q (.mov (.t 4)), some (60, false), 0⟩,
⟨some 62, .q (.faddr 2 (.t 1)), some (60, false), 0⟩,
⟨some 63, .q (.load false 1 (.t 62)), some (60, false), 0⟩,
⟨some 64, .q (.bin .lss .scalar (.t 61) (.t 63)), some (60, false), 0⟩,
⟨some 65, .q (.mov (.t 64)), some (60, false), 0⟩,
⟨some 66, .q (.faddr 2 (.t 5)), some (65, true), 0⟩,
⟨some 67, .q (.load false 1 (.t 66)), some (65, true), 0⟩,
⟨some 68, .q (.un .not (.t 67)), some (65, true), 0⟩,
⟨some 69, .q (.pick (.t 65) (.t 68) (cb false)), some (60, false), 0⟩,
Q 70 (.pick (.t 60) (cb true) (.t 69))]) (
.cond (.t 70) (
.seq (
.region [Q 2 (.mov (cb false))]) (
.ret)) (
.skip))) (
.region [Q 71 (.mov (.t 3)),
Q 72 (.faddr 0 (.t 5)),
Q 73 (.load false 1 (.t 72)),
Q 74 (.lookup .str (.one (dc (.int .i64 0))) false (.t 71) (.t 73)),
Q 75 (.bin .add .scalar (.t 74) (ci 1)),
⟨none, .e (.mapup .str (.t 71) (.t 73) (.t 75)), none, 0⟩])))) (
.region [Q 76 (.bin .add .scalar (.t 34) (ci 1)),
Q 34 (.mov (.t 76))]))))))) (
.seq (
.region [Q 2 (.mov (cb true))]) (
.ret)))))
def a144 : AFunc := ⟨c144, [.tmp 2], true⟩
def c145 : ACode :=
.seq (
.region [M 2 (.box 36 3 (.t 0)),
Q 4 (.mov (ci 0))]) (
.seq (
.block 0 (
.seq (
.region [Q 8 (.load true 3 (.t 2)),
E 9 (.callf 144 [(.t 8)]),
Q 10 (.un .not (.t 9)),
Q 7 (.mov (.t 10))]) (
.cond (.t 7) (
.seq (
.region [Q 4 (.mov (ci 11))]) (
.ret)) (
.seq (
.region [Q 12 (.mov (.t 1)),
Q 13 (.len .sl (.t 12)),
Q 14 (.faddr 1 (.t 2)),
Q 15 (.load false 1 (.t 14)),
Q 16 (.len .sl (.t 15)),
Q 17 (.bin .neq .scalar (.t 13) (.t 16)),
Q 11 (.mov (.t 17))]) (
.cond (.t 11) (
.seq (
.region [Q 4 (.mov (ci 10))]) (
.ret)) (
.skip)))))) (
.seq (
.seq (
.region [Q 18 (.faddr 1 (.t 2)),
Q 19 (.load false 1 (.t 18)),
Q 20 (.len .sl (.t 19)),
Q 21 (.mov (ci 0))]) (
.block 1 (
.loop (
.seq (
.region [Q 22 (.bin .lss .scalar (.t 21) (.t 20))]) (
.seq (
.cond (.t 22) (
.skip) (
.exit 1)) (
.seq (
.block 2 (
.seq (
.region [Q 23 (.mov (.t 21)),
Q 24 (.iaddr 3 none (.t 19) (.t 21)),
Q 25 (.load true 3 (.t 24)),
M 6 (.alloc 185 3 [dc (.str []), dc (.int .i64 0), dc (.bool false)]),
Q 5 (.mov (.t 23)),
⟨none, .e (.store 3 (.t 6) (.t 25)), none, 0⟩]) (
.seq (
.draw [⟨0, ⟨some 26, .q (.load true 3 (.t 6)), none, 0⟩⟩,
⟨1, ⟨some 27, .q (.mov (.t 1)), none, 0⟩⟩,
⟨2, ⟨some 28, .q (.mov (.t 5)), none, 0⟩⟩,
⟨3, ⟨some 29, .q (.iaddr 4 none (.t 27) (.t 28)), none, 6⟩⟩,
⟨4, ⟨some 30, .q (.load true 4 (.t 29)), none, 14⟩⟩,
⟨5, ⟨some 31, .e (.callf 217 [(.t 26), (.t 30)]), none, 31⟩⟩,
⟨6, ⟨some 32, .q (.un .not (.t 31)), none, 63⟩⟩]) (
.cond (.t 32) (
.seq (
.region [Q 4 (.mov (ci 10))]) (
.ret)) (
.skip))))) (
.region [Q 33 (.bin .add .scalar (.t 21) (ci 1)),
Q 21 (.mov (.t 33))]))))))) (
.seq (
.region [Q 4 (.mov (ci 0))]) (
.ret))))
def a145 : AFunc := ⟨c145, [.tmp 4], true⟩
def c146 : ACode :=
.seq (
.region [Q 4 (.mov (cb false))]) (
.seq (
.seq (
.region [Q 6 (.mov (.t 0)),
Q 7 (.len .sl (.t 6)),
Q 8 (.mov (.t 1)),
Q 9 (.len .sl (.t 8)),
Q 10 (.bin .neq .scalar (.t 7) (.t 9))]) (
.cond (.t 10) (
.seq (
.region [Q 4 (.mov (cb false))]) (
.ret)) (
.skip))) (
.seq (
.seq (
.region [Q 11 (.mov (.t 0)),
Q 12 (.len .sl (.t 11)),
Q 13 (.mov (ci 0))]) (
.block 0 (
.loop (
.seq (
.region [Q 14 (.bin .lss .scalar (.t 13) (.t 12))]) (
.seq (
.cond (.t 14) (
.skip) (
.exit 0)) (
.seq (
.block 1 (
.seq (
.region [Q 15 (.mov (.t 13)),
Q 5 (.mov (.t 15))]) (
.seq (
.draw [⟨0, ⟨some 16, .q (.mov (.t 0)), none, 0⟩⟩,
⟨1, ⟨some 17, .q (.mov (.t 5)), none, 0⟩⟩,
⟨2, ⟨some 18, .q (.iaddr 4 none (.t 16) (.t 17)), none, 3⟩⟩,
⟨3, ⟨some 19, .q (.load true 4 (.t 18)), none, 7⟩⟩,
⟨4, ⟨some 20, .q (.mov (.t 1)), none, 0⟩⟩,
⟨5, ⟨some 21, .q (.mov (.t 5)), none, 0⟩⟩,
⟨6, ⟨some 22, .q (.iaddr 4 none (.t 20) (.t 21)), none, 48⟩⟩,
⟨7, ⟨some 23, .q (.load true 4 (.t 22)), none, 112⟩⟩,
⟨8, ⟨some 24, .q (.bin .neq (.agg [.int, .int, .int, .str]) (.t 19) (.t 23)), none, 255⟩⟩]) (
.cond (.t 24) (
.seq (
.region [Q 4 (.mov (cb false))]) (
.ret)) (
.skip))))) (
.region [Q 25 (.bin .add .scalar (.t 13) (ci 1)),
Q 13 (.mov (.t 25))]))))))) (
.seq (
.region [Q 4 (.mov (cb true))]) (
.ret))))
def a146 : AFunc := ⟨c146, [.tmp 4], true⟩
def c147 : ACode :=
.seq (
.region [Q 2 (.mov (.c (.one (dc (.sl [] true)))))]) (
.seq (
.region [Q 3 (.mov (.c (.one (dc (.sl [] true)))))]) (
.seq (
.seq (
.region [Q 6 (.mov (.t 0)),
Q 7 (.len .sl (.t 6)),
Q 8 (.mov (ci 0))]) (
.block 0 (
.loop (
.seq (
.region [Q 9 (.bin .lss .scalar (.t 8) (.t 7))]) (
.seq (
.cond (.t 9) (
.skip) (
.exit 0)) (
.seq (
.block 1 (
.seq (
.region [Q 10 (.iaddr 3 none (.t 6) (.t 8)),
Q 11 (.load true 3 (.t 10)),
M 5 (.alloc 98 3 [dc (.int .i64 0), dc (.int .i64 0), dc (.sl [] true)]),
⟨none, .e (.store 3 (.t 5) (.t 11)), none, 0⟩]) (
.draw [⟨0, ⟨some 12, .q (.mov (.t 3)), none, 0⟩⟩,
⟨1, ⟨some 13, .q (.faddr 0 (.t 5)), none, 0⟩⟩,
⟨2, ⟨some 14, .q (.load true 2 (.t 13)), none, 2⟩⟩,
⟨3, ⟨some 15, .q (.faddr 2 (.t 5)), none, 0⟩⟩,
⟨4, ⟨some 16, .q (.load false 1 (.t 15)), none, 8⟩⟩,
⟨5, ⟨some 17, .e (.append 128 4 40 (.c (.one (dc (.sl [] true)))) (.t 16)), none, 24⟩⟩,
⟨6, ⟨some 18, .q (.build [dc (.int .i64 0), dc (.int .i64 0), dc (.sl [] true)] [(0, 2, (.t 14)), (2, 1, (.t 17))]), none, 62⟩⟩,
⟨7, ⟨some 19, .m (.bslice 98 3 1 [dc (.int .i64 0), dc (.int .i64 0), dc (.sl [] true)] [(0, 3, (.t 18))]), none, 126⟩⟩,
⟨8, ⟨some 20, .e (.append 98 3 40 (.t 12) (.t 19)), none, 255⟩⟩,
⟨9, ⟨some 3, .q (.mov (.t 20)), none, 511⟩⟩]))) (
.region [Q 21 (.bin .add .scalar (.t 8) (ci 1)),
Q 8 (.mov (.t 21))]))))))) (
.seq (
.region [Q 22 (.mov (.t 3)),
Q 2 (.mov (.t 22))]) (
.ret))))
def a147 : AFunc := ⟨c147, [.tmp 2], false⟩
def c149 : ACode :=
.seq (
.region [M 1 (.box 116 8 (.t 0)),
Q 2 (.mov (cb false))]) (
.seq (
.seq (
.region [Q 4 (.faddr 0 (.t 1)),
Q 5 (.load false 1 (.t 4))]) (
.block 0 (
.seq (
.region [Q 7 (.bin .eql .scalar (.t 5) (ci 3)),
Q 6 (.mov (.t 7))]) (
.cond (.t 6) (
.seq (
.region [Q 8 (.faddr 5 (.t 1)),
Q 9 (.load true 3 (.t 8)),
E 10 (.callf 144 [(.t 9)]),
Q 11 (.mov (.t 10)),
⟨some 12, .q (.faddr 1 (.t 1)), some (11, true), 0⟩,
⟨some 13, .q (.load false 1 (.t 12)), some (11, true), 0⟩,
⟨some 14, .q (.faddr 5 (.t 1)), some (11, true), 0⟩,
⟨some 15, .q (.faddr 0 (.t 14)), some (11, true), 0⟩,
⟨some 16, .q (.load false 1 (.t 15)), some (11, true), 0⟩,
⟨some 17, .q (.bin .eql .scalar (.t 13) (.t 16)), some (11, true), 0⟩,
Q 18 (.pick (.t 11) (.t 17) (cb false)),
Q 19 (.mov (.t 18)),
⟨some 20, .q (.faddr 2 (.t 1)), some (19, true), 0⟩,
⟨some 21, .q (.load false 1 (.t 20)), some (19, true), 0⟩,
⟨some 22, .q (.len .sl (.t 21)), some (19, true), 0⟩,
⟨some 23, .q (.bin .eql .scalar (.t 22) (ci 0)), some (19, true), 0⟩,
Q 24 (.pick (.t 19) (.t 23) (cb false)),
Q 25 (.mov (.t 24)),
⟨some 26, .q (.faddr 3 (.t 1)), some (25, true), 0⟩,
⟨some 27, .q (.load true 2 (.t 26)), some (25, true), 0⟩,
⟨some 28, .q (.build [dc (.int .i64 0), dc (.int .i64 0)] []), some (25, true), 0⟩,
⟨some 29, .q (.bin .eql (.agg [.int, .int]) (.t 27) (.t 28)), some (25, true), 0⟩,
Q 30 (.pick (.t 25) (.t 29) (cb false)),
Q 2 (.mov (.t 30))]) (
.ret)) (
.seq (
.seq (
.region [Q 32 (.bin .eql .scalar (.t 5) (ci 1)),
Q 31 (.mov (.t 32))]) (
.cond (.t 31) (
.skip) (
.region [Q 33 (.bin .eql .scalar (.t 5) (ci 2)),
Q 31 (.mov (.t 33))]))) (
.cond (.t 31) (
.seq (
.region [Q 3 (.mov (ci 16))]) (
.seq (
.seq (
.region [Q 34 (.faddr 0 (.t 1)),
Q 35 (.load false 1 (.t 34)),
Q 36 (.bin .eql .scalar (.t 35) (ci 2))]) (
.cond (.t 36) (
.region [Q 3 (.mov (ci 8))]) (
.skip))) (
.seq (
.region [Q 37 (.faddr 1 (.t 1)),
Q 38 (.load false 1 (.t 37)),
E 39 (.callf 216 [(.t 38)]),
Q 40 (.mov (.t 39)),
⟨some 41, .q (.faddr 2 (.t 1)), some (40, true), 0⟩,
⟨some 42, .q (.load false 1 (.t 41)), some (40, true), 0⟩,
⟨some 43, .q (.mov (.t 3)), some (40, true), 0⟩,
⟨some 44, .e (.callf 218 [(.t 42), (.t 43)]), some (40, true), 0⟩,
Q 45 (.pick (.t 40) (.t 44) (cb false)),
Q 46 (.mov (.t 45)),
⟨some 47, .q (.faddr 3 (.t 1)), some (46, true), 0⟩,
⟨some 48, .q (.load true 2 (.t 47)), some (46, true), 0⟩,
⟨some 49, .e (.callf 219 [(.t 48)]), some (46, true), 0⟩,
Q 50 (.pick (.t 46) (.t 49) (cb false)),
Q 51 (.mov (.t 50)),
⟨some 52, .q (.faddr 5 (.t 1)), some (51, true), 0⟩,
⟨some 53, .q (.load true 3 (.t 52)), some (51, true), 0⟩,
⟨some 54, .q (.build [dc (.str []), dc (.sl [] true), dc (.int .i64 0)] []), some (51, true), 0⟩,
⟨some 55, .e (.callf 220 [(.t 53), (.t 54)]), some (51, true), 0⟩,
Q 56 (.pick (.t 51) (.t 55) (cb false)),
Q 2 (.mov (.t 56))]) (
.ret)))) (
.skip))))))) (
.seq (
.region [Q 2 (.mov (cb false))]) (
.ret)))
def a149 : AFunc := ⟨c149, [.tmp 2], true⟩
def c150 : ACode :=
.seq (
.region [M 2 (.box 36 3 (.t 0)),
M 3 (.box 36 3 (.t 1)),
Q 4 (.mov (cb false))]) (
.seq (
.seq (
.region [Q 7 (.load true 3 (.t 2)),
E 8 (.callf 144 [(.t 7)]),
Q 9 (.un .not (.t 8)),
Q 10 (.mov (.t 9)),
⟨some 11, .q (.load true 3 (.t 3)), some (10, false), 0⟩,
⟨some 12, .e (.callf 144 [(.t 11)]), some (10, false), 0⟩,
⟨some 13, .q (.un .not (.t 12)), some (10, false), 0⟩,
Q 14 (.pick (.t 10) (cb true) (.t 13)),
Q 15 (.mov (.t 14)),
⟨some 16, .q (.faddr 1 (.t 2)), some (15, false), 0⟩,
⟨some 17, .q (.load false 1 (.t 16)), some (15, false), 0⟩,
⟨some 18, .q (.len .sl (.t 17)), some (15, false), 0⟩,
⟨some 19, .q (.faddr 1 (.t 3)), some (15, false), 0⟩,
⟨some 20, .q (.load false 1 (.t 19)), some (15, false), 0⟩,
⟨some 21, .q (.len .sl (.t 20)), some (15, false), 0⟩,
⟨some 22, .q (.bin .gtr .scalar (.t 18) (.t 21)), some (15, false), 0⟩,
Q 23 (.pick (.t 15) (cb true) (.t 22))]) (
.cond (.t 23) (
.seq (
.region [Q 4 (.mov (cb false))]) (
.ret)) (
.skip))) (
.seq (
.seq (
.region [Q 24 (.faddr 1 (.t 3)),
Q 25 (.load false 1 (.t 24)),
Q 26 (.faddr 1 (.t 2)),
Q 27 (.load false 1 (.t 26)),
Q 28 (.len .sl (.t 27)),
Q 29 (.slice 3 (.t 25) (some (.t 28)) none none),
Q 30 (.len .sl (.t 29)),
Q 31 (.mov (ci 0))]) (
.block 0 (
.loop (
.seq (
.region [Q 32 (.bin .lss .scalar (.t 31) (.t 30))]) (
.seq (
.cond (.t 32) (
.skip) (
.exit 0)) (
.seq (
.block 1 (
.seq (
.region [Q 33 (.iaddr 3 none (.t 29) (.t 31)),
Q 34 (.load true 3 (.t 33)),
M 6 (.alloc 185 3 [dc (.str []), dc (.int .i64 0), dc (.bool false)]),
⟨none, .e (.store 3 (.t 6) (.t 34)), none, 0⟩]) (
.seq (
.region [Q 35 (.faddr 2 (.t 6)),
Q 36 (.load false 1 (.t 35))]) (
.cond (.t 36) (
.seq (
.region [Q 4 (.mov (cb false))]) (
.ret)) (
.skip))))) (
.region [Q 37 (.bin .add .scalar (.t 31) (ci 1)),
Q 31 (.mov (.t 37))]))))))) (
.seq (
.region [Q 38 (.faddr 1 (.t 3)),
Q 39 (.load false 1 (.t 38)),
Q 40 (.faddr 1 (.t 2)),
Q 41 (.load false 1 (.t 40)),
Q 42 (.len .sl (.t 41)),
Q 43 (.slice 3 (.t 39) none (some (.t 42)) none),
Q 44 (.faddr 1 (.t 3)),
⟨none, .e (.store 1 (.t 44) (.t 43)), none, 0⟩]) (
.seq (
.region [Q 45 (.load true 3 (.t 2)),
Q 46 (.load true 3 (.t 3)),
E 47 (.callf 220 [(.t 45), (.t 46)]),
Q 4 (.mov (.t 47))]) (
.ret)))))
def a150 : AFunc := ⟨c150, [.tmp 4], true⟩
def c151 : ACode :=
.seq (
.region [M 2 (.box 36 3 (.t 0)),
Q 4 (.mov (cb false))]) (
.seq (
.seq (
.region [Q 7 (.mov (.t 1)),
Q 8 (.len .sl (.t 7)),
Q 9 (.faddr 2 (.t 2)),
Q 10 (.load false 1 (.t 9)),
Q 11 (.bin .neq .scalar (.t 8) (.t 10))]) (
.cond (.t 11) (
.seq (
.region [Q 4 (.mov (cb false))]) (
.ret)) (
.skip))) (
.seq (
.seq (
.region [Q 12 (.mov (.t 1)),
Q 13 (.len .sl (.t 12)),
Q 14 (.mov (ci 0))]) (
.block 0 (
.loop (
.seq (
.region [Q 15 (.bin .lss .scalar (.t 14) (.t 13))]) (
.seq (
.cond (.t 15) (
.skip) (
.exit 0)) (
.seq (
.block 1 (
.seq (
.region [Q 16 (.mov (.t 14)),
Q 17 (.iaddr 4 none (.t 12) (.t 14)),
Q 18 (.load true 4 (.t 17)),
M 6 (.alloc 128 4 [dc (.int .i64 0), dc (.int .i64 0), dc (.int .u64 0), dc (.str [])]),
Q 5 (.mov (.t 16)),
⟨none, .e (.store 4 (.t 6) (.t 18)), none, 0⟩]) (
.seq (
.draw [⟨0, ⟨some 19, .q (.faddr 0 (.t 6)), none, 0⟩⟩,
⟨1, ⟨some 20, .q (.load false 1 (.t 19)), none, 1⟩⟩,
⟨2, ⟨some 21, .q (.faddr 1 (.t 2)), none, 0⟩⟩,
⟨3, ⟨some 22, .q (.load false 1 (.t 21)), none, 4⟩⟩,
⟨4, ⟨some 23, .q (.mov (.t 5)), none, 0⟩⟩,
⟨5, ⟨some 24, .q (.iaddr 3 none (.t 22) (.t 23)), none, 28⟩⟩,
⟨6, ⟨some 25, .q (.faddr 1 (.t 24)), none, 60⟩⟩,
⟨7, ⟨some 26, .q (.load false 1 (.t 25)), none, 124⟩⟩,
⟨8, ⟨some 27, .q (.bin .neq .scalar (.t 20) (.t 26)), none, 255⟩⟩]) (
.cond (.t 27) (
.seq (
.region [Q 4 (.mov (cb false))]) (
.ret)) (
.skip))))) (
.region [Q 28 (.bin .add .scalar (.t 14) (ci 1)),
Q 14 (.mov (.t 28))]))))))) (
.seq (
.region [Q 4 (.mov (cb true))]) (
.ret))))
def a151 : AFunc := ⟨c151, [.tmp 4], true⟩
def c152 : ACode :=
.seq (
.region [Q 2 (.mov (cs []))]) (
.seq (
.seq (
.region [Q 6 (.mov (.t 0)),
E 7 (.callf 221 [(.t 6)]),
Q 8 (.un .not (.t 7))]) (
.cond (.t 8) (
.seq (
.region [Q 2 (.mov (cs []))]) (
.ret)) (
.skip))) (
.seq (
.region [Q 3 (.mov (cs []))]) (
.seq (
.seq (
.region [Q 9 (.mov (.t 0)),
Q 10 (.len .sl (.t 9)),
Q 11 (.mov (ci 0))]) (
.block 0 (
.loop (
.seq (
.region [Q 12 (.bin .lss .scalar (.t 11) (.t 10))]) (
.seq (
.cond (.t 12) (
.skip) (
.exit 0)) (
.seq (
.block 1 (
.seq (
.region [Q 13 (.iaddr 4 none (.t 9) (.t 11)),
Q 14 (.load true 4 (.t 13)),
M 5 (.alloc 128 4 [dc (.int .i64 0), dc (.int .i64 0), dc (.int .u64 0), dc (.str [])]),
⟨none, .e (.store 4 (.t 5) (.t 14)), none, 0⟩]) (
.region [Q 15 (.mov (.t 3)),
Q 16 (.load true 4 (.t 5)),
E 17 (.callf 222 [(.t 16)]),
Q 18 (.bin .add .scalar (.t 15) (.t 17)),
Q 3 (.mov (.t 18))]))) (
.region [Q 19 (.bin .add .scalar (.t 11) (ci 1)),
Q 11 (.mov (.t 19))]))))))) (
.seq (
.region [Q 20 (.mov (.t 3)),
Q 21 (.bin .add .scalar (.t 20) (cs [0])),
Q 2 (.mov (.t 21))]) (
.ret)))))
def a152 : AFunc := ⟨c152, [.tmp 2], true⟩
def c153 : ACode :=
.seq (
.region [M 2 (.box 36 3 (.t 0)),
Q 4 (.mov (.c (.one (dc (.sl [] true)))))]) (
.seq (
.seq (
.region [Q 5 (.load true 3 (.t 2)),
Q 6 (.mov (.t 1)),
E 7 (.callf 145 [(.t 5), (.t 6)]),
Q 8 (.bin .neq .scalar (.t 7) (ci 0))]) (
.cond (.t 8) (
.seq (
.region [Q 4 (.mov (.c (.one (dc (.sl [] true)))))]) (
.ret)) (
.skip))) (
.seq (
.region [Q 9 (.mov (.t 1)),
Q 10 (.faddr 2 (.t 2)),
Q 11 (.load false 1 (.t 10)),
Q 12 (.slice 4 (.t 9) none (some (.t 11)) none),
E 13 (.append 128 4 40 (.c (.one (dc (.sl [] true)))) (.t 12)),
Q 4 (.mov (.t 13))]) (
.ret)))
def a153 : AFunc := ⟨c153, [.tmp 4], true⟩
def c154 : ACode :=
.seq (
.region [Q 2 (.mov (cb false))]) (
.seq (
.seq (
.region [Q 5 (.mov (.t 0)),
Q 6 (.len .sl (.t 5)),
Q 7 (.mov (ci 0))]) (
.block 0 (
.loop (
.seq (
.region [Q 8 (.bin .lss .scalar (.t 7) (.t 6))]) (
.seq (
.cond (.t 8) (
.skip) (
.exit 0)) (
.seq (
.block 1 (
.seq (
.region [Q 9 (.iaddr 4 none (.t 5) (.t 7)),
Q 10 (.load true 4 (.t 9)),
M 4 (.alloc 128 4 [dc (.int .i64 0), dc (.int .i64 0), dc (.int .u64 0), dc (.str [])]),
⟨none, .e (.store 4 (.t 4) (.t 10)), none, 0⟩]) (
.seq (
.region [Q 11 (.load true 4 (.t 4)),
E 12 (.callf 158 [(.t 11)]),
Q 13 (.un .not (.t 12))]) (
.cond (.t 13) (
.seq (
.region [Q 2 (.mov (cb false))]) (
.ret)) (
.skip))))) (
.region [Q 14 (.bin .add .scalar (.t 7) (ci 1)),
Q 7 (.mov (.t 14))]))))))) (
.seq (
.region [Q 2 (.mov (cb true))]) (
.ret)))
def a154 : AFunc := ⟨c154, [.tmp 2], true⟩
def c155 : ACode :=
.seq (
.region [M 2 (.box 26 2 (.t 0)),
M 3 (.box 26 2 (.t 1)),
Q 4 (.mov (.c (.one (dc (.sl [] true)))))]) (
.seq (
.region [Q 8 (.load true 2 (.t 2)),
Q 9 (.load true 2 (.t 3)),
E 10 (.callf 215 [(.t 8), (.t 9)]),
Q 7 (.mov (.t 10)),
Q 11 (.extract 0 (.t 7)),
Q 12 (.extract 1 (.t 7)),
M 5 (.alloc 26 2 [dc (.int .i64 0), dc (.int .i64 0)]),
⟨none, .e (.store 2 (.t 5) (.t 11)), none, 0⟩,
Q 6 (.mov (.t 12))]) (
.seq (
.seq (
.region [Q 13 (.mov (.t 6)),
Q 14 (.un .not (.t 13))]) (
.cond (.t 14) (
.seq (
.region [Q 15 (.load true 2 (.t 2)),
M 16 (.bslice 26 2 1 [dc (.int .i64 0), dc (.int .i64 0)] [(0, 2, (.t 15))]),
E 17 (.callf 223 [(.t 16)]),
Q 4 (.mov (.t 17))]) (
.ret)) (
.skip))) (
.seq (
.region [Q 18 (.faddr 0 (.t 2)),
Q 19 (.load false 1 (.t 18)),
Q 20 (.faddr 0 (.t 5)),
Q 21 (.load false 1 (.t 20)),
Q 22 (.build [dc (.int .i64 0), dc (.int .i64 0)] [(0, 1, (.t 19)), (1, 1, (.t 21))]),
Q 23 (.faddr 1 (.t 5)),
Q 24 (.load false 1 (.t 23)),
Q 25 (.faddr 1 (.t 2)),
Q 26 (.load false 1 (.t 25)),
Q 27 (.build [dc (.int .i64 0), dc (.int .i64 0)] [(0, 1, (.t 24)), (1, 1, (.t 26))]),
M 28 (.bslice 26 2 2 [dc (.int .i64 0), dc (.int .i64 0), dc (.int .i64 0), dc (.int .i64 0)] [(0, 2, (.t 22)), (2, 2, (.t 27))]),
E 29 (.callf 223 [(.t 28)]),
Q 4 (.mov (.t 29))]) (
.ret))))
def a155 : AFunc := ⟨c155, [.tmp 4], true⟩
def c156 : ACode :=
.seq (
.region [M 3 (.box 30 1 (.t 1)),
Q 4 (.mov (.c (.one (dc (.sl [] true)))))]) (
.seq (
.region [Q 9 (.mkfn (.func 224) 224 [] [(.t 3)]),
Q 5 (.mov (.t 9))]) (
.seq (
.region [Q 6 (.mov (.c (.one (dc (.sl [] true)))))]) (
.seq (
.seq (
.region [Q 10 (.mov (.t 0)),
Q 11 (.len .sl (.t 10)),
Q 12 (.mov (ci 0))]) (
.block 0 (
.loop (
.seq (
.region [Q 13 (.bin .lss .scalar (.t 12) (.t 11))]) (
.seq (
.cond (.t 13) (
.skip) (
.exit 0)) (
.seq (
.block 1 (
.seq (
.region [Q 14 (.iaddr 3 none (.t 10) (.t 12)),
Q 15 (.load true 3 (.t 14)),
M 8 (.alloc 98 3 [dc (.int .i64 0), dc (.int .i64 0), dc (.sl [] true)]),
⟨none, .e (.store 3 (.t 8) (.t 15)), none, 0⟩]) (
.seq (
.region [Q 16 (.mov (.t 5)),
Q 17 (.load true 3 (.t 8)),
E 18 (.callv (.t 16) [(.t 17)]),
Q 19 (.un .not (.t 18))]) (
.cond (.t 19) (
.region [Q 20 (.mov (.t 6)),
Q 21 (.load true 3 (.t 8)),
M 22 (.bslice 98 3 1 [dc (.int .i64 0), dc (.int .i64 0), dc (.sl [] true)] [(0, 3, (.t 21))]),
E 23 (.append 98 3 40 (.t 20) (.t 22)),
Q 6 (.mov (.t 23))]) (
.skip))))) (
.region [Q 24 (.bin .add .scalar (.t 12) (ci 1)),
Q 12 (.mov (.t 24))]))))))) (
.seq (
.region [Q 25 (.mov (.t 6)),
E 26 (.callf 147 [(.t 25)]),
Q 4 (.mov (.t 26))]) (
.ret)))))
def a156 : AFunc := ⟨c156, [.tmp 4], true⟩
def c157 : ACode :=
.seq (
.region [Q 2 (.mov (cs []))]) (
.seq (
.region [Q 3 (.mov (.t 0)),
Q 4 (.conv (.int .u8) (.t 3)),
M 5 (.bslice 5 1 1 [dc (.int .u8 0)] [(0, 1, (.t 4))]),
Q 6 (.conv .b2s (.t 5)),
Q 2 (.mov (.t 6))]) (
.ret))
def a157 : AFunc := ⟨c157, [.tmp 2], true⟩
def c158 : ACode :=
.seq (
.region [M 1 (.box 128 4 (.t 0)),
Q 2 (.mov (cb false))]) (
.seq (
.region [Q 4 (.faddr 0 (.t 1)),
Q 5 (.load false 1 (.t 4)),
Q 6 (.build [dc (.int .i64 0), dc (.int .i64 0), dc (.int .u64 0), dc (.str [])] [(0, 1, (.t 5))]),
M 3 (.alloc 128 4 [dc (.int .i64 0), dc (.int .i64 0), dc (.int .u64 0), dc (.str [])]),
⟨none, .e (.store 4 (.t 3) (.t 6)), none, 0⟩]) (
.seq (
.seq (
.region [Q 7 (.faddr 0 (.t 1)),
Q 8 (.load false 1 (.t 7))]) (
.block 0 (
.seq (
.region [Q 10 (.bin .eql .scalar (.t 8) (ci 0)),
Q 9 (.mov (.t 10))]) (
.cond (.t 9) (
.skip) (
.seq (
.region [Q 12 (.bin .eql .scalar (.t 8) (ci 1)),
Q 11 (.mov (.t 12))]) (
.cond (.t 11) (
.region [Q 13 (.faddr 1 (.t 1)),
Q 14 (.load false 1 (.t 13)),
Q 15 (.bin .and .scalar (.t 14) (ci 1)),
Q 16 (.faddr 1 (.t 3)),
⟨none, .e (.store 1 (.t 16) (.t 15)), none, 0⟩]) (
.seq (
.region [Q 18 (.bin .eql .scalar (.t 8) (ci 2)),
Q 17 (.mov (.t 18))]) (
.cond (.t 17) (
.region [Q 19 (.faddr 1 (.t 1)),
Q 20 (.load false 1 (.t 19)),
Q 21 (.faddr 1 (.t 3)),
⟨none, .e (.store 1 (.t 21) (.t 20)), none, 0⟩]) (
.seq (
.region [Q 23 (.bin .eql .scalar (.t 8) (ci 3)),
Q 22 (.mov (.t 23))]) (
.cond (.t 22) (
.region [Q 24 (.faddr 2 (.t 1)),
Q 25 (.load false 1 (.t 24)),
Q 26 (.bitsf (.t 25)),
E 27 (.callf 225 [(.t 26)]),
Q 28 (.faddr 2 (.t 3)),
⟨none, .e (.store 1 (.t 28) (.t 27)), none, 0⟩]) (
.seq (
.seq (
.region [Q 30 (.bin .eql .scalar (.t 8) (ci 4)),
Q 29 (.mov (.t 30))]) (
.cond (.t 29) (
.skip) (
.region [Q 31 (.bin .eql .scalar (.t 8) (ci 5)),
Q 29 (.mov (.t 31))]))) (
.cond (.t 29) (
.region [Q 32 (.faddr 3 (.t 1)),
Q 33 (.load false 1 (.t 32)),
Q 34 (.faddr 3 (.t 3)),
⟨none, .e (.store 1 (.t 34) (.t 33)), none, 0⟩]) (
.seq (
.region [Q 2 (.mov (cb false))]) (
.ret)))))))))))))) (
.seq (
.region [Q 35 (.load true 4 (.t 1)),
Q 36 (.load true 4 (.t 3)),
Q 37 (.bin .eql (.agg [.int, .int, .int, .str]) (.t 35) (.t 36)),
Q 38 (.mov (.t 37)),
⟨some 39, .q (.faddr 3 (.t 1)), some (38, true), 0⟩,
⟨some 40, .q (.load false 1 (.t 39)), some (38, true), 0⟩,
⟨some 41, .q (.len .str (.t 40)), some (38, true), 0⟩,
⟨some 42, .q (.bin .leq .scalar (.t 41) (ci 4096)), some (38, true), 0⟩,
Q 43 (.pick (.t 38) (.t 42) (cb false)),
Q 2 (.mov (.t 43))]) (
.ret))))
def a158 : AFunc := ⟨c158, [.tmp 2], true⟩
def c159 : ACode :=
.seq (
.region [M 1 (.box 128 4 (.t 0)),
Q 2 (.mov (cs []))]) (
.seq (
.seq (
.region [Q 5 (.load true 4 (.t 1)),
E 6 (.callf 158 [(.t 5)]),
Q 7 (.un .not (.t 6))]) (
.cond (.t 7) (
.seq (
.region [Q 2 (.mov (cs []))]) (
.ret)) (
.skip))) (
.seq (
.region [Q 8 (.faddr 0 (.t 1)),
Q 9 (.load false 1 (.t 8)),
Q 10 (.conv (.int .u64) (.t 9)),
E 11 (.callf 157 [(.t 10)]),
Q 3 (.mov (.t 11))]) (
.seq (
.seq (
.region [Q 12 (.faddr 0 (.t 1)),
Q 13 (.load false 1 (.t 12))]) (
.block 0 (
.seq (
.region [Q 15 (.bin .eql .scalar (.t 13) (ci 1)),
Q 14 (.mov (.t 15))]) (
.cond (.t 14) (
.region [Q 16 (.mov (.t 3)),
Q 17 (.faddr 1 (.t 1)),
Q 18 (.load false 1 (.t 17)),
Q 19 (.conv (.int .u64) (.t 18)),
E 20 (.callf 157 [(.t 19)]),
Q 21 (.bin .add .scalar (.t 16) (.t 20)),
Q 3 (.mov (.t 21))]) (
.seq (
.region [Q 23 (.bin .eql .scalar (.t 13) (ci 2)),
Q 22 (.mov (.t 23))]) (
.cond (.t 22) (
.region [Q 24 (.mov (.t 3)),
Q 25 (.faddr 1 (.t 1)),
Q 26 (.load false 1 (.t 25)),
E 27 (.callf 227 [(.t 26)]),
Q 28 (.bin .add .scalar (.t 24) (.t 27)),
Q 3 (.mov (.t 28))]) (
.seq (
.region [Q 30 (.bin .eql .scalar (.t 13) (ci 3)),
Q 29 (.mov (.t 30))]) (
.cond (.t 29) (
.seq (
.region [Q 4 (.mov (ci 7))]) (
.block 1 (
.loop (
.seq (
.seq (
.region [Q 31 (.mov (.t 4)),
Q 32 (.bin .geq .scalar (.t 31) (ci 0))]) (
.cond (.t 32) (
.skip) (
.exit 1))) (
.seq (
.block 2 (
.region [Q 35 (.mov (.t 3)),
Q 36 (.faddr 2 (.t 1)),
Q 37 (.load false 1 (.t 36)),
Q 38 (.mov (.t 4)),
Q 39 (.bin .mul .scalar (ci 8) (.t 38)),
Q 40 (.bin .shr .scalar (.t 37) (.t 39)),
E 41 (.callf 157 [(.t 40)]),
Q 42 (.bin .add .scalar (.t 35) (.t 41)),
Q 3 (.mov (.t 42))])) (
.region [Q 33 (.mov (.t 4)),
Q 34 (.bin .sub .scalar (.t 33) (ci 1)),
Q 4 (.mov (.t 34))])))))) (
.seq (
.seq (
.region [Q 44 (.bin .eql .scalar (.t 13) (ci 4)),
Q 43 (.mov (.t 44))]) (
.cond (.t 43) (
.skip) (
.region [Q 45 (.bin .eql .scalar (.t 13) (ci 5)),
Q 43 (.mov (.t 45))]))) (
.cond (.t 43) (
.region [Q 46 (.mov (.t 3)),
Q 47 (.faddr 3 (.t 1)),
Q 48 (.load false 1 (.t 47)),
E 49 (.callf 111 [(.t 48)]),
Q 50 (.bin .add .scalar (.t 46) (.t 49)),
Q 3 (.mov (.t 50))]) (
.skip))))))))))) (
.seq (
.region [Q 51 (.mov (.t 3)),
Q 2 (.mov (.t 51))]) (
.ret)))))
def a159 : AFunc := ⟨c159, [.tmp 2], true⟩
def c160 : ACode :=
.seq (
.region [Q 2 (.mov (.c (.one (dc (.int .u64 0)))))]) (
.seq (
.region [Q 3 (.mov (.t 0)),
Q 4 (.mov (.t 0)),
Q 5 (.mkfn (.func 229) 229 [(.t 4)] []),
E 6 (.callf 228 [(.t 3), (.t 5)]),
Q 2 (.mov (.t 6))]) (
.ret))
def a160 : AFunc := ⟨c160, [.tmp 2], false⟩
def c161 : ACode :=
.seq (
.region [M 2 (.alloc 36 3 [dc (.str []), dc (.sl [] true), dc (.int .i64 0)]),
Q 3 (.mov (ci 0))]) (
.seq (
.region [Q 8 (.mov (.t 0)),
E 9 (.callf 114 [(.t 8)]),
Q 4 (.mov (.t 9))]) (
.seq (
.region [Q 10 (.mov (.t 4)),
E 11 (.callf 162 [(.t 10)]),
Q 12 (.mov (.t 4)),
E 13 (.callf 160 [(.t 12)]),
Q 14 (.mnmx false (.t 13) (.c (.one (dc (.int .u64 9))))),
Q 15 (.conv (.int .i64) (.t 14)),
Q 16 (.build [dc (.str []), dc (.sl [] true), dc (.int .i64 0)] [(0, 1, (.t 11)), (2, 1, (.t 15))]),
M 5 (.alloc 36 3 [dc (.str []), dc (.sl [] true), dc (.int .i64 0)]),
⟨none, .e (.store 3 (.t 5) (.t 16)), none, 0⟩]) (
.seq (
.seq (
.region [Q 17 (.mov (.t 4)),
E 18 (.callf 160 [(.t 17)]),
Q 6 (.mov (.t 18))]) (
.block 0 (
.loop (
.seq (
.seq (
.region [Q 19 (.mov (.t 6)),
Q 20 (.bin .gtr .scalar (.t 19) (.c (.one (dc (.int .u64 0))))),
Q 21 (.mov (.t 20)),
⟨some 22, .q (.mov (.t 4)), some (21, true), 0⟩,
⟨some 23, .e (.callf 119 [(.t 22)]), some (21, true), 0⟩,
⟨some 24, .q (.bin .eql .scalar (.t 23) (ci 0)), some (21, true), 0⟩,
Q 25 (.pick (.t 21) (.t 24) (cb false)),
Q 26 (.mov (.t 25)),
⟨some 27, .q (.faddr 1 (.t 5)), some (26, true), 0⟩,
⟨some 28, .q (.load false 1 (.t 27)), some (26, true), 0⟩,
⟨some 29, .q (.len .sl (.t 28)), some (26, true), 0⟩,
⟨some 30, .q (.bin .leq .scalar (.t 29) (ci 16)), some (26, true), 0⟩,
Q 31 (.pick (.t 26) (.t 30) (cb false))]) (
.cond (.t 31) (
.skip) (
.exit 0))) (
.seq (
.block 1 (
.seq (
.region [Q 34 (.mov (.t 4)),
E 35 (.callf 162 [(.t 34)]),
Q 36 (.mov (.t 4)),
E 37 (.callf 160 [(.t 36)]),
Q 38 (.mnmx false (.t 37) (.c (.one (dc (.int .u64 6))))),
Q 39 (.conv (.int .i64) (.t 38)),
Q 40 (.build [dc (.str []), dc (.int .i64 0), dc (.bool false)] [(0, 1, (.t 35)), (1, 1, (.t 39))]),
M 7 (.alloc 185 3 [dc (.str []), dc (.int .i64 0), dc (.bool false)]),
⟨none, .e (.store 3 (.t 7) (.t 40)), none, 0⟩]) (
.seq (
.region [Q 41 (.mov (.t 4)),
E 42 (.callf 160 [(.t 41)]),
Q 43 (.bin .gtr .scalar (.t 42) (.c (.one (dc (.int .u64 0))))),
Q 44 (.faddr 2 (.t 7)),
⟨none, .e (.store 1 (.t 44) (.t 43)), none, 0⟩]) (
.region [Q 45 (.faddr 1 (.t 5)),
Q 46 (.load false 1 (.t 45)),
Q 47 (.load true 3 (.t 7)),
M 48 (.bslice 185 3 1 [dc (.str []), dc (.int .i64 0), dc (.bool false)] [(0, 3, (.t 47))]),
E 49 (.append 185 3 32 (.t 46) (.t 48)),
Q 50 (.faddr 1 (.t 5)),
⟨none, .e (.store 1 (.t 50) (.t 49)), none, 0⟩])))) (
.region [Q 32 (.mov (.t 6)),
Q 33 (.bin .sub .scalar (.t 32) (.c (.one (dc (.int .u64 1))))),
Q 6 (.mov (.t 33))])))))) (
.seq (
.seq (
.region [Q 51 (.mov (.t 4)),
E 52 (.callf 119 [(.t 51)]),
Q 53 (.bin .neq .scalar (.t 52) (ci 0)),
Q 54 (.mov (.t 53)),
⟨some 55, .q (.load true 3 (.t 5)), some (54, false), 0⟩,
⟨some 56, .e (.callf 112 [(.t 55)]), some (54, false), 0⟩,
⟨some 57, .q (.mov (.t 0)), some (54, false), 0⟩,
⟨some 58, .q (.bin .neq .scalar (.t 56) (.t 57)), some (54, false), 0⟩,
Q 59 (.pick (.t 54) (cb true) (.t 58))]) (
.cond (.t 59) (
.seq (
.region [Q 60 (.build [dc (.str []), dc (.sl [] true), dc (.int .i64 0)] []),
⟨none, .e (.store 3 (.t 2) (.t 60)), none, 0⟩,
Q 3 (.mov (ci 7))]) (
.ret)) (
.skip))) (
.seq (
.region [Q 61 (.load true 3 (.t 5)),
⟨none, .e (.store 3 (.t 2) (.t 61)), none, 0⟩,
Q 3 (.mov (ci 0))]) (
.ret))))))
def a161 : AFunc := ⟨c161, [.cell 2 true 3, .tmp 3], true⟩
def c162 : ACode :=
.seq (
.region [M 1 (.box 186 1 (.t 0)),
Q 2 (.mov (cs []))]) (
.seq (
.region [Q 3 (.load false 1 (.t 1)),
Q 4 (.mkfn (.func 231) 231 [] [(.t 1)]),
E 5 (.callf 230 [(.t 3), (.t 4)]),
Q 2 (.mov (.t 5))]) (
.ret))
def a162 : AFunc := ⟨c162, [.tmp 2], false⟩
def c163 : ACode :=
.seq (
.region [M 1 (.box 189 1 (.t 0)),
M 2 (.alloc 26 2 [dc (.int .i64 0), dc (.int .i64 0)])]) (
.seq (
.region [Q 4 (.load true 1 (.t 1)),
E 5 (.callf 115 [(.t 4)]),
Q 3 (.mov (.t 5))]) (
.seq (
.region [Q 6 (.mov (.t 3)),
Q 7 (.load true 1 (.t 1)),
E 8 (.callf 115 [(.t 7)]),
Q 9 (.build [dc (.int .i64 0), dc (.int .i64 0)] [(0, 1, (.t 6)), (1, 1, (.t 8))]),
⟨none, .e (.store 2 (.t 2) (.t 9)), none, 0⟩]) (
.ret)))
def a163 : AFunc := ⟨c163, [.cell 2 true 2], false⟩
def c164 : ACode :=
.seq (
.region [Q 2 (.mov (.c (.one (dc (.sl [] true)))))]) (
.seq (
.region [Q 3 (.mov (.t 0)),
Q 4 (.mov (.t 0)),
Q 5 (.mkfn (.func 234) 234 [(.t 4)] []),
E 6 (.callf 233 [(.t 3), (.t 5)]),
Q 2 (.mov (.t 6))]) (
.ret))
def a164 : AFunc := ⟨c164, [.tmp 2], false⟩
def c165 : ACode :=
.seq (
.region [Q 4 (.mov (cb false))]) (
.seq (
.seq (
.region [Q 7 (.mov (.t 0)),
Q 8 (.nilck (.t 7)),
Q 9 (.faddr 0 (.t 8)),
Q 10 (.load false 1 (.t 9)),
Q 11 (.len .sl (.t 10)),
Q 12 (.mov (ci 0))]) (
.block 0 (
.loop (
.seq (
.region [Q 13 (.bin .lss .scalar (.t 12) (.t 11))]) (
.seq (
.cond (.t 13) (
.skip) (
.exit 0)) (
.seq (
.block 1 (
.seq (
.region [Q 14 (.mov (.t 12)),
Q 15 (.iaddr 4 none (.t 10) (.t 12)),
Q 16 (.load true 4 (.t 15)),
M 6 (.alloc 102 4 [dc (.int .i64 0), dc (.str []), dc (.sl [] true), dc (.int .i64 0)]),
Q 5 (.mov (.t 14)),
⟨none, .e (.store 4 (.t 6) (.t 16)), none, 0⟩]) (
.seq (
.seq (
.region [Q 17 (.faddr 1 (.t 6)),
Q 18 (.load true 3 (.t 17)),
E 19 (.callf 144 [(.t 18)]),
Q 20 (.un .not (.t 19)),
Q 21 (.mov (.t 20)),
⟨some 22, .q (.faddr 0 (.t 6)), some (21, false), 0⟩,
⟨some 23, .q (.load false 1 (.t 22)), some (21, false), 0⟩,
⟨some 24, .q (.mov (.t 1)), some (21, false), 0⟩,
⟨some 25, .q (.bin .gtr .scalar (.t 23) (.t 24)), some (21, false), 0⟩,
Q 26 (.pick (.t 21) (cb true) (.t 25))]) (
.cond (.t 26) (
.seq (
.region [Q 4 (.mov (cb false))]) (
.ret)) (
.skip))) (
.seq (
.draw [⟨0, ⟨some 27, .q (.mov (.t 5)), none, 0⟩⟩,
⟨1, ⟨some 28, .q (.bin .gtr .scalar (.t 27) (ci 0)), none, 1⟩⟩,
⟨2, ⟨some 29, .q (.mov (.t 28)), none, 3⟩⟩,
⟨3, ⟨some 30, .q (.faddr 0 (.t 6)), some (29, true), 7⟩⟩,
⟨4, ⟨some 31, .q (.load false 1 (.t 30)), some (29, true), 15⟩⟩,
⟨5, ⟨some 32, .q (.mov (.t 0)), some (29, true), 7⟩⟩,
⟨6, ⟨some 33, .q (.nilck (.t 32)), some (29, true), 39⟩⟩,
⟨7, ⟨some 34, .q (.faddr 0 (.t 33)), some (29, true), 103⟩⟩,
⟨8, ⟨some 35, .q (.load false 1 (.t 34)), some (29, true), 231⟩⟩,
⟨9, ⟨some 36, .q (.mov (.t 5)), some (29, true), 7⟩⟩,
⟨10, ⟨some 37, .q (.bin .sub .scalar (.t 36) (ci 1)), some (29, true), 519⟩⟩,
⟨11, ⟨some 38, .q (.iaddr 4 none (.t 35) (.t 37)), some (29, true), 2023⟩⟩,
⟨12, ⟨some 39, .q (.faddr 0 (.t 38)), some (29, true), 4071⟩⟩,
⟨13, ⟨some 40, .q (.load false 1 (.t 39)), some (29, true), 8167⟩⟩,
⟨14, ⟨some 41, .q (.bin .leq .scalar (.t 31) (.t 40)), some (29, true), 16383⟩⟩,
⟨15, ⟨some 42, .q (.mov (.t 41)), some (29, true), 32767⟩⟩,
⟨16, ⟨some 43, .q (.mov (.t 0)), some (42, false), 65535⟩⟩,
⟨17, ⟨some 44, .q (.nilck (.t 43)), some (42, false), 131071⟩⟩,
⟨18, ⟨some 45, .q (.faddr 0 (.t 44)), some (42, false), 262143⟩⟩,
⟨19, ⟨some 46, .q (.load false 1 (.t 45)), some (42, false), 524287⟩⟩,
⟨20, ⟨some 47, .q (.mov (.t 5)), some (42, false), 65535⟩⟩,
⟨21, ⟨some 48, .q (.bin .sub .scalar (.t 47) (ci 1)), some (42, false), 1114111⟩⟩,
⟨22, ⟨some 49, .q (.iaddr 4 none (.t 46) (.t 48)), some (42, false), 4194303⟩⟩,
⟨23, ⟨some 50, .q (.faddr 1 (.t 49)), some (42, false), 8388607⟩⟩,
⟨24, ⟨some 51, .q (.load true 3 (.t 50)), some (42, false), 16777215⟩⟩,
⟨25, ⟨some 52, .q (.faddr 1 (.t 6)), some (42, false), 65535⟩⟩,
⟨26, ⟨some 53, .q (.load true 3 (.t 52)), some (42, false), 33619967⟩⟩,
⟨27, ⟨some 54, .e (.callf 150 [(.t 51), (.t 53)]), some (42, false), 134217727⟩⟩,
⟨28, ⟨some 55, .q (.un .not (.t 54)), some (42, false), 268435455⟩⟩,
⟨29, ⟨some 56, .q (.pick (.t 42) (cb true) (.t 55)), some (29, true), 536870911⟩⟩,
⟨30, ⟨some 57, .q (.pick (.t 29) (.t 56) (cb false)), none, 1073741823⟩⟩]) (
.cond (.t 57) (
.seq (
.region [Q 4 (.mov (cb false))]) (
.ret)) (
.skip)))))) (
.region [Q 58 (.bin .add .scalar (.t 12) (ci 1)),
Q 12 (.mov (.t 58))]))))))) (
.seq (
.region [Q 59 (.mov (.t 0)),
Q 60 (.nilck (.t 59)),
Q 61 (.faddr 0 (.t 60)),
Q 62 (.load false 1 (.t 61)),
Q 63 (.len .sl (.t 62)),
Q 64 (.bin .gtr .scalar (.t 63) (ci 0)),
Q 4 (.mov (.t 64))]) (
.ret)))
def a165 : AFunc := ⟨c165, [.tmp 4], true⟩
def c166 : ACode :=
.seq (
.region [Q 2 (.mov (.c (.one (dc (.sl [] true))))),
Q 3 (.mov (ci 0))]) (
.seq (
.region [Q 6 (.mov (.t 0)),
Q 7 (.build [dc (.str []), dc (.bool false)] [(0, 1, (.t 6))]),
M 8 (.box 287 2 (.t 7)),
Q 4 (.mov (.t 8))]) (
.seq (
.region [Q 5 (.mov (.c (.one (dc (.sl [] true)))))]) (
.seq (
.block 0 (
.loop (
.seq (
.seq (
.region [Q 9 (.mov (.t 4)),
Q 10 (.nilck (.t 9)),
Q 11 (.faddr 1 (.t 10)),
Q 12 (.load false 1 (.t 11)),
Q 13 (.un .not (.t 12)),
Q 14 (.mov (.t 13)),
⟨some 15, .q (.mov (.t 4)), some (14, true), 0⟩,
⟨some 16, .q (.nilck (.t 15)), some (14, true), 0⟩,
⟨some 17, .q (.faddr 0 (.t 16)), some (14, true), 0⟩,
⟨some 18, .q (.load false 1 (.t 17)), some (14, true), 0⟩,
⟨some 19, .q (.bin .neq .scalar (.t 18) (cs [0])), some (14, true), 0⟩,
Q 20 (.pick (.t 14) (.t 19) (cb false))]) (
.cond (.t 20) (
.skip) (
.exit 0))) (
.block 1 (
.seq (
.region [Q 21 (.mov (.t 5)),
Q 22 (.mov (.t 4)),
E 23 (.callf 235 [(.t 22)]),
M 24 (.bslice 128 4 1 [dc (.int .i64 0), dc (.int .i64 0), dc (.int .u64 0), dc (.str [])] [(0, 4, (.t 23))]),
E 25 (.append 128 4 40 (.t 21) (.t 24)),
Q 5 (.mov (.t 25))]) (
.region [Q 26 (.mov (.t 4)),
Q 27 (.mov (.t 4)),
Q 28 (.nilck (.t 27)),
Q 29 (.faddr 1 (.t 28)),
Q 30 (.load false 1 (.t 29)),
Q 31 (.mov (.t 30)),
⟨some 32, .q (.mov (.t 5)), some (31, false), 0⟩,
⟨some 33, .q (.len .sl (.t 32)), some (31, false), 0⟩,
⟨some 34, .q (.bin .gtr .scalar (.t 33) (ci 8)), some (31, false), 0⟩,
Q 35 (.pick (.t 31) (cb true) (.t 34)),
Q 36 (.nilck (.t 26)),
Q 37 (.faddr 1 (.t 36)),
⟨none, .e (.store 1 (.t 37) (.t 35)), none, 0⟩])))))) (
.seq (
.seq (
.region [Q 38 (.mov (.t 4)),
Q 39 (.nilck (.t 38)),
Q 40 (.faddr 1 (.t 39)),
Q 41 (.load false 1 (.t 40))]) (
.cond (.t 41) (
.seq (
.region [Q 2 (.mov (.c (.one (dc (.sl [] true))))),
Q 3 (.mov (ci 7))]) (
.ret)) (
.skip))) (
.seq (
.region [Q 42 (.mov (.t 5)),
Q 2 (.mov (.t 42)),
Q 3 (.mov (ci 0))]) (
.ret))))))
def a166 : AFunc := ⟨c166, [.tmp 2, .tmp 3], true⟩
def c167 : ACode :=
.seq (
.region [Q 2 (.mov (cs []))]) (
.seq (
.region [Q 6 (.mov (.t 0)),
M 7 (.s2b 5 (.t 6)),
Q 3 (.mov (.t 7))]) (
.seq (
.seq (
.region [Q 8 (.mov (.t 0)),
E 9 (.callf 236 [(.t 8)]),
Q 4 (.mov (.t 9)),
Q 5 (.mov (ci 0))]) (
.block 0 (
.loop (
.seq (
.seq (
.region [Q 10 (.mov (.t 5)),
Q 11 (.bin .lss .scalar (.t 10) (ci 4))]) (
.cond (.t 11) (
.skip) (
.exit 0))) (
.seq (
.block 1 (
.seq (
.region [Q 14 (.mov (.t 3)),
Q 15 (.mov (.t 4)),
Q 16 (.conv (.int .u8) (.t 15)),
M 17 (.bslice 5 1 1 [dc (.int .u8 0)] [(0, 1, (.t 16))]),
E 18 (.append 5 1 1 (.t 14) (.t 17)),
Q 3 (.mov (.t 18))]) (
.region [Q 19 (.mov (.t 4)),
Q 20 (.bin .shr .scalar (.t 19) (.c (.one (dc (.int .u64 8))))),
Q 4 (.mov (.t 20))]))) (
.region [Q 12 (.mov (.t 5)),
Q 13 (.bin .add .scalar (.t 12) (ci 1)),
Q 5 (.mov (.t 13))])))))) (
.seq (
.region [Q 21 (.mov (.t 3)),
Q 22 (.conv .b2s (.t 21)),
Q 2 (.mov (.t 22))]) (
.ret))))
def a167 : AFunc := ⟨c167, [.tmp 2], true⟩
def c168 : ACode :=
.seq (
.region [Q 2 (.mov (ci 0))]) (
.seq (
.region [Q 3 (.mov (.t 0)),
E 4 (.callf 160 [(.t 3)]),
Q 5 (.mnmx false (.t 4) (.c (.one (dc (.int .u64 1099511627777))))),
Q 6 (.conv (.int .i64) (.t 5)),
Q 2 (.mov (.t 6))]) (
.ret))
def a168 : AFunc := ⟨c168, [.tmp 2], false⟩
def c169 : ACode :=
.seq (
.region [M 2 (.alloc 116 8 [dc (.int .i64 0), dc (.str []), dc (.sl [] true), dc (.int .i64 0), dc (.int .i64 0), dc (.str []), dc (.sl [] true), dc (.int .i64 0)])]) (
.seq (
.region [Q 4 (.mov (.t 0)),
E 5 (.callf 168 [(.t 4)]),
Q 6 (.build [dc (.int .i64 0), dc (.str []), dc (.sl [] true), dc (.int .i64 0), dc (.int .i64 0), dc (.str []), dc (.sl [] true), dc (.int .i64 0)] [(0, 1, (.t 5))]),
M 3 (.alloc 116 8 [dc (.int .i64 0), dc (.str []), dc (.sl [] true), dc (.int .i64 0), dc (.int .i64 0), dc (.str []), dc (.sl [] true), dc (.int .i64 0)]),
⟨none, .e (.store 8 (.t 3) (.t 6)), none, 0⟩]) (
.seq (
.seq (
.region [Q 7 (.faddr 0 (.t 3)),
Q 8 (.load false 1 (.t 7)),
Q 9 (.bin .eql .scalar (.t 8) (ci 3))]) (
.cond (.t 9) (
.seq (
.region [Q 11 (.mov (.t 0)),
E 12 (.callf 162 [(.t 11)]),
E 13 (.callf 161 [(.t 12)]),
Q 10 (.mov (.t 13)),
Q 14 (.extract 0 (.t 10)),
Q 15 (.extract 1 (.t 10)),
Q 16 (.faddr 5 (.t 3)),
⟨none, .e (.store 3 (.t 16) (.t 14)), none, 0⟩]) (
.seq (
.region [Q 17 (.faddr 5 (.t 3)),
Q 18 (.faddr 0 (.t 17)),
Q 19 (.load false 1 (.t 18)),
Q 20 (.faddr 1 (.t 3)),
⟨none, .e (.store 1 (.t 20) (.t 19)), none, 0⟩]) (
.seq (
.region [Q 21 (.load true 8 (.t 3)),
⟨none, .e (.store 8 (.t 2) (.t 21)), none, 0⟩]) (
.ret)))) (
.skip))) (
.seq (
.region [Q 22 (.mov (.t 0)),
E 23 (.callf 162 [(.t 22)]),
Q 24 (.faddr 1 (.t 3)),
⟨none, .e (.store 1 (.t 24) (.t 23)), none, 0⟩]) (
.seq (
.region [Q 25 (.mov (.t 0)),
E 26 (.callf 164 [(.t 25)]),
Q 27 (.faddr 2 (.t 3)),
⟨none, .e (.store 1 (.t 27) (.t 26)), none, 0⟩]) (
.seq (
.region [Q 28 (.mov (.t 0)),
E 29 (.callf 168 [(.t 28)]),
Q 30 (.faddr 3 (.t 3)),
Q 31 (.faddr 0 (.t 30)),
⟨none, .e (.store 1 (.t 31) (.t 29)), none, 0⟩]) (
.seq (
.region [Q 32 (.mov (.t 0)),
E 33 (.callf 168 [(.t 32)]),
Q 34 (.faddr 3 (.t 3)),
Q 35 (.faddr 1 (.t 34)),
⟨none, .e (.store 1 (.t 35) (.t 33)), none, 0⟩]) (
.seq (
.region [Q 36 (.load true 8 (.t 3)),
⟨none, .e (.store 8 (.t 2) (.t 36)), none, 0⟩]) (
.ret))))))))
def a169 : AFunc := ⟨c169, [.cell 2 true 8], false⟩
def c170 : ACode :=
.seq (
.region [M 1 (.box 24 3 (.t 0)),
Q 2 (.mov (cs []))]) (
.seq (
.seq (
.region [Q 6 (.load true 3 (.t 1)),
E 7 (.callf 96 [(.t 6)]),
Q 8 (.un .not (.t 7))]) (
.cond (.t 8) (
.seq (
.region [Q 2 (.mov (cs []))]) (
.ret)) (
.skip))) (
.seq (
.draw [⟨0, ⟨some 9, .q (.faddr 0 (.t 1)), none, 0⟩⟩,
⟨1, ⟨some 10, .q (.load false 1 (.t 9)), none, 1⟩⟩,
⟨3, ⟨some 12, .q (.faddr 1 (.t 1)), none, 0⟩⟩,
⟨4, ⟨some 13, .q (.load false 1 (.t 12)), none, 8⟩⟩,
⟨7, ⟨some 16, .q (.faddr 2 (.t 1)), none, 0⟩⟩,
⟨8, ⟨some 17, .q (.load false 1 (.t 16)), none, 128⟩⟩,
⟨9, ⟨some 18, .q (.len .sl (.t 17)), none, 384⟩⟩,
⟨2, ⟨some 11, .e (.callf 237 [(.t 10)]), none, 3⟩⟩,
⟨5, ⟨some 14, .e (.callf 237 [(.t 13)]), none, 31⟩⟩,
⟨6, ⟨some 15, .q (.bin .add .scalar (.t 11) (.t 14)), none, 63⟩⟩,
⟨10, ⟨some 19, .e (.callf 237 [(.t 18)]), none, 959⟩⟩,
⟨11, ⟨some 20, .q (.bin .add .scalar (.t 15) (.t 19)), none, 2047⟩⟩,
⟨12, ⟨some 3, .q (.mov (.t 20)), none, 4095⟩⟩]) (
.seq (
.seq (
.region [Q 21 (.faddr 2 (.t 1)),
Q 22 (.load false 1 (.t 21)),
Q 23 (.len .sl (.t 22)),
Q 24 (.mov (ci 0))]) (
.block 0 (
.loop (
.seq (
.region [Q 25 (.bin .lss .scalar (.t 24) (.t 23))]) (
.seq (
.cond (.t 25) (
.skip) (
.exit 0)) (
.seq (
.block 1 (
.seq (
.region [Q 26 (.iaddr 8 none (.t 22) (.t 24)),
Q 27 (.load true 8 (.t 26)),
M 5 (.alloc 116 8 [dc (.int .i64 0), dc (.str []), dc (.sl [] true), dc (.int .i64 0), dc (.int .i64 0), dc (.str []), dc (.sl [] true), dc (.int .i64 0)]),
⟨none, .e (.store 8 (.t 5) (.t 27)), none, 0⟩]) (
.region [Q 28 (.mov (.t 3)),
Q 29 (.load true 8 (.t 5)),
E 30 (.callf 238 [(.t 29)]),
Q 31 (.bin .add .scalar (.t 28) (.t 30)),
Q 3 (.mov (.t 31))]))) (
.region [Q 32 (.bin .add .scalar (.t 24) (ci 1)),
Q 24 (.mov (.t 32))]))))))) (
.seq (
.seq (
.region [Q 33 (.mov (.t 3)),
Q 34 (.len .str (.t 33)),
Q 35 (.bin .gtr .scalar (.t 34) (ci 100000))]) (
.cond (.t 35) (
.seq (
.region [Q 2 (.mov (cs []))]) (
.ret)) (
.skip))) (
.seq (
.region [Q 36 (.mov (.t 3)),
Q 2 (.mov (.t 36))]) (
.ret))))))
def a170 : AFunc := ⟨c170, [.tmp 2], true⟩
def c171 : ACode :=
.seq (
.region [M 2 (.box 54 1 (.t 0)),
M 3 (.box 24 3 (.t 1)),
Q 4 (.mov (ci 0))]) (
.seq (
.seq (
.region [Q 9 (.load false 1 (.t 2)),
E 10 (.callf 132 [(.t 9)]),
Q 5 (.mov (.t 10))]) (
.seq (
.region [Q 11 (.mov (.t 5)),
Q 12 (.bin .neq .scalar (.t 11) (ci 0))]) (
.cond (.t 12) (
.seq (
.region [Q 13 (.mov (.t 5)),
Q 4 (.mov (.t 13))]) (
.ret)) (
.skip)))) (
.seq (
.region [Q 14 (.load false 1 (.t 2)),
Q 15 (.nilck (.t 14)),
Q 16 (.faddr 2 (.t 15)),
Q 17 (.load false 1 (.t 16)),
E 18 (.callf 19 [(.t 17)]),
Q 6 (.mov (.t 18))]) (
.seq (
.seq (
.region [Q 19 (.mov (.t 6)),
Q 20 (.load true 3 (.t 3)),
E 21 (.callf 10 [(.t 19), (.t 20)]),
Q 7 (.mov (.t 21))]) (
.seq (
.region [Q 22 (.mov (.t 7)),
Q 23 (.bin .neq .scalar (.t 22) (ci 0))]) (
.cond (.t 23) (
.seq (
.region [Q 24 (.mov (.t 7)),
Q 4 (.mov (.t 24))]) (
.ret)) (
.skip)))) (
.seq (
.region [Q 25 (.load true 3 (.t 3)),
E 26 (.callf 170 [(.t 25)]),
M 8 (.alloc 9 1 [dc (.str [])]),
⟨none, .e (.store 1 (.t 8) (.t 26)), none, 0⟩]) (
.seq (
.seq (
.region [Q 27 (.load false 1 (.t 8)),
Q 28 (.bin .eql .scalar (.t 27) (cs []))]) (
.cond (.t 28) (
.seq (
.region [Q 4 (.mov (ci 19))]) (
.ret)) (
.skip))) (
.seq (
.region [Q 29 (.load false 1 (.t 2)),
Q 30 (.mov (.t 6)),
Q 31 (.mkfn (.func 239) 239 [] [(.t 2), (.t 8)]),
E 32 (.callf 188 [(.t 29), (.t 30), (.t 31)]),
Q 4 (.mov (.t 32))]) (
.ret)))))))
def a171 : AFunc := ⟨c171, [.tmp 4], false⟩
def c172 : ACode :=
.seq (
.region [M 1 (.box 24 3 (.t 0)),
Q 2 (.mov (cb false))]) (
.seq (
.seq (
.region [Q 3 (.mov (ci 0))]) (
.block 0 (
.loop (
.seq (
.seq (
.region [Q 4 (.mov (.t 3)),
Q 5 (.faddr 2 (.t 1)),
Q 6 (.load false 1 (.t 5)),
Q 7 (.len .sl (.t 6)),
Q 8 (.bin .lss .scalar (.t 4) (.t 7))]) (
.cond (.t 8) (
.skip) (
.exit 0))) (
.seq (
.block 1 (
.seq (
.region [Q 11 (.faddr 2 (.t 1)),
Q 12 (.load false 1 (.t 11)),
Q 13 (.mov (.t 3)),
Q 14 (.iaddr 8 none (.t 12) (.t 13)),
Q 15 (.load true 8 (.t 14)),
E 16 (.callf 241 [(.t 15)]),
Q 17 (.un .not (.t 16))]) (
.cond (.t 17) (
.seq (
.region [Q 2 (.mov (cb false))]) (
.ret)) (
.skip)))) (
.region [Q 9 (.mov (.t 3)),
Q 10 (.bin .add .scalar (.t 9) (ci 1)),
Q 3 (.mov (.t 10))])))))) (
.seq (
.region [Q 18 (.faddr 0 (.t 1)),
Q 19 (.load false 1 (.t 18)),
Q 20 (.bin .geq .scalar (.t 19) (ci 1)),
Q 21 (.mov (.t 20)),
⟨some 22, .q (.faddr 0 (.t 1)), some (21, true), 0⟩,
⟨some 23, .q (.load false 1 (.t 22)), some (21, true), 0⟩,
⟨some 24, .q (.bin .leq .scalar (.t 23) (ci 1099511627776)), some (21, true), 0⟩,
Q 25 (.pick (.t 21) (.t 24) (cb false)),
Q 26 (.mov (.t 25)),
⟨some 27, .q (.faddr 1 (.t 1)), some (26, true), 0⟩,
⟨some 28, .q (.load false 1 (.t 27)), some (26, true), 0⟩,
⟨some 29, .q (.bin .geq .scalar (.t 28) (ci 0)), some (26, true), 0⟩,
Q 30 (.pick (.t 26) (.t 29) (cb false)),
Q 31 (.mov (.t 30)),
⟨some 32, .q (.faddr 1 (.t 1)), some (31, true), 0⟩,
⟨some 33, .q (.load false 1 (.t 32)), some (31, true), 0⟩,
⟨some 34, .q (.bin .lss .scalar (.t 33) (ci 1099511627776)), some (31, true), 0⟩,
Q 35 (.pick (.t 31) (.t 34) (cb false)),
Q 36 (.mov (.t 35)),
⟨some 37, .q (.faddr 2 (.t 1)), some (36, true), 0⟩,
⟨some 38, .q (.load false 1 (.t 37)), some (36, true), 0⟩,
⟨some 39, .q (.len .sl (.t 38)), some (36, true), 0⟩,
⟨some 40, .q (.bin .leq .scalar (.t 39) (ci 100)), some (36, true), 0⟩,
Q 41 (.pick (.t 36) (.t 40) (cb false)),
Q 2 (.mov (.t 41))]) (
.ret)))
def a172 : AFunc := ⟨c172, [.tmp 2], true⟩
def c173 : ACode :=
.seq (
.region [Q 2 (.mov (cs []))]) (
.seq (
.seq (
.region [Q 3 (.mov (.t 0)),
Q 4 (.bin .lss .scalar (.t 3) (.c (.one (dc (.int .u64 128)))))]) (
.cond (.t 4) (
.seq (
.region [Q 5 (.mov (.t 0)),
Q 6 (.conv (.int .u8) (.t 5)),
M 7 (.bslice 5 1 1 [dc (.int .u8 0)] [(0, 1, (.t 6))]),
Q 8 (.conv .b2s (.t 7)),
Q 2 (.mov (.t 8))]) (
.ret)) (
.skip))) (
.seq (
.draw [⟨0, ⟨some 9, .q (.mov (.t 0)), none, 0⟩⟩,
⟨1, ⟨some 10, .q (.bin .rem .scalar (.t 9) (.c (.one (dc (.int .u64 128))))), none, 1⟩⟩,
⟨2, ⟨some 11, .q (.bin .add .scalar (.c (.one (dc (.int .u64 128)))) (.t 10)), none, 3⟩⟩,
⟨3, ⟨some 12, .q (.conv (.int .u8) (.t 11)), none, 7⟩⟩,
⟨4, ⟨some 13, .m (.bslice 5 1 1 [dc (.int .u8 0)] [(0, 1, (.t 12))]), none, 15⟩⟩,
⟨5, ⟨some 14, .q (.conv .b2s (.t 13)), none, 31⟩⟩,
⟨6, ⟨some 15, .q (.mov (.t 0)), none, 0⟩⟩,
⟨7, ⟨some 16, .q (.bin .quo .scalar (.t 15) (.c (.one (dc (.int .u64 128))))), none, 64⟩⟩,
⟨8, ⟨some 17, .e (.callf 173 [(.t 16)]), none, 192⟩⟩,
⟨9, ⟨some 18, .q (.bin .add .scalar (.t 14) (.t 17)), none, 511⟩⟩,
⟨10, ⟨some 2, .q (.mov (.t 18)), none, 1023⟩⟩]) (
.ret)))
def a173 : AFunc := ⟨c173, [.tmp 2], true⟩
def c174 : ACode :=
.seq (
.region [Q 2 (.mov (cs []))]) (
.seq (
.region [Q 3 (.mov (.t 0)),
Q 4 (.len .str (.t 3)),
Q 5 (.conv (.int .u64) (.t 4)),
E 6 (.callf 173 [(.t 5)]),
Q 7 (.mov (.t 0)),
Q 8 (.bin .add .scalar (.t 6) (.t 7)),
Q 2 (.mov (.t 8))]) (
.ret))
def a174 : AFunc := ⟨c174, [.tmp 2], true⟩
def c175 : ACode :=
.seq (
.region [M 1 (.box 36 3 (.t 0)),
Q 2 (.mov (cs []))]) (
.seq (
.seq (
.region [Q 7 (.load true 3 (.t 1)),
E 8 (.callf 242 [(.t 7)]),
Q 9 (.un .not (.t 8))]) (
.cond (.t 9) (
.seq (
.region [Q 2 (.mov (cs []))]) (
.ret)) (
.skip))) (
.seq (
.draw [⟨0, ⟨some 10, .q (.faddr 0 (.t 1)), none, 0⟩⟩,
⟨1, ⟨some 11, .q (.load false 1 (.t 10)), none, 1⟩⟩,
⟨3, ⟨some 13, .q (.faddr 2 (.t 1)), none, 0⟩⟩,
⟨4, ⟨some 14, .q (.load false 1 (.t 13)), none, 8⟩⟩,
⟨5, ⟨some 15, .q (.conv (.int .u64) (.t 14)), none, 24⟩⟩,
⟨8, ⟨some 18, .q (.faddr 1 (.t 1)), none, 0⟩⟩,
⟨9, ⟨some 19, .q (.load false 1 (.t 18)), none, 256⟩⟩,
⟨10, ⟨some 20, .q (.len .sl (.t 19)), none, 768⟩⟩,
⟨11, ⟨some 21, .q (.conv (.int .u64) (.t 20)), none, 1792⟩⟩,
⟨2, ⟨some 12, .e (.callf 174 [(.t 11)]), none, 3⟩⟩,
⟨6, ⟨some 16, .e (.callf 173 [(.t 15)]), none, 63⟩⟩,
⟨7, ⟨some 17, .q (.bin .add .scalar (.t 12) (.t 16)), none, 127⟩⟩,
⟨12, ⟨some 22, .e (.callf 173 [(.t 21)]), none, 3967⟩⟩,
⟨13, ⟨some 23, .q (.bin .add .scalar (.t 17) (.t 22)), none, 8191⟩⟩,
⟨14, ⟨some 3, .q (.mov (.t 23)), none, 16383⟩⟩]) (
.seq (
.seq (
.region [Q 4 (.mov (ci 0))]) (
.block 0 (
.loop (
.seq (
.seq (
.region [Q 24 (.mov (.t 4)),
Q 25 (.faddr 1 (.t 1)),
Q 26 (.load false 1 (.t 25)),
Q 27 (.len .sl (.t 26)),
Q 28 (.bin .lss .scalar (.t 24) (.t 27))]) (
.cond (.t 28) (
.skip) (
.exit 0))) (
.seq (
.block 1 (
.seq (
.region [Q 31 (.faddr 1 (.t 1)),
Q 32 (.load false 1 (.t 31)),
Q 33 (.mov (.t 4)),
Q 34 (.iaddr 3 none (.t 32) (.t 33)),
Q 35 (.load true 3 (.t 34)),
M 5 (.alloc 185 3 [dc (.str []), dc (.int .i64 0), dc (.bool false)]),
⟨none, .e (.store 3 (.t 5) (.t 35)), none, 0⟩]) (
.seq (
.region [Q 6 (.mov (.c (.one (dc (.int .u64 0)))))]) (
.seq (
.seq (
.region [Q 36 (.faddr 2 (.t 5)),
Q 37 (.load false 1 (.t 36))]) (
.cond (.t 37) (
.region [Q 6 (.mov (.c (.one (dc (.int .u64 1)))))]) (
.skip))) (
.draw [⟨0, ⟨some 38, .q (.mov (.t 3)), none, 0⟩⟩,
⟨1, ⟨some 39, .q (.faddr 0 (.t 5)), none, 0⟩⟩,
⟨2, ⟨some 40, .q (.load false 1 (.t 39)), none, 2⟩⟩,
⟨5, ⟨some 43, .q (.faddr 1 (.t 5)), none, 0⟩⟩,
⟨6, ⟨some 44, .q (.load false 1 (.t 43)), none, 32⟩⟩,
⟨7, ⟨some 45, .q (.conv (.int .u64) (.t 44)), none, 96⟩⟩,
⟨10, ⟨some 48, .q (.mov (.t 6)), none, 0⟩⟩,
⟨3, ⟨some 41, .e (.callf 174 [(.t 40)]), none, 6⟩⟩,
⟨4, ⟨some 42, .q (.bin .add .scalar (.t 38) (.t 41)), none, 15⟩⟩,
⟨8, ⟨some 46, .e (.callf 173 [(.t 45)]), none, 238⟩⟩,
⟨9, ⟨some 47, .q (.bin .add .scalar (.t 42) (.t 46)), none, 511⟩⟩,
⟨11, ⟨some 49, .e (.callf 173 [(.t 48)]), none, 1518⟩⟩,
⟨12, ⟨some 50, .q (.bin .add .scalar (.t 47) (.t 49)), none, 4095⟩⟩,
⟨13, ⟨some 3, .q (.mov (.t 50)), none, 8191⟩⟩]))))) (
.region [Q 29 (.mov (.t 4)),
Q 30 (.bin .add .scalar (.t 29) (ci 1)),
Q 4 (.mov (.t 30))])))))) (
.seq (
.region [Q 51 (.mov (.t 3)),
Q 2 (.mov (.t 51))]) (
.ret)))))
def a175 : AFunc := ⟨c175, [.tmp 2], true⟩
def c176 : ACode :=
.seq (
.region [Q 2 (.mov (cs []))]) (
.seq (
.region [Q 6 (.mov (.t 0)),
Q 7 (.len .sl (.t 6)),
Q 8 (.conv (.int .u64) (.t 7)),
E 9 (.callf 173 [(.t 8)]),
Q 3 (.mov (.t 9))]) (
.seq (
.seq (
.region [Q 4 (.mov (ci 0))]) (
.block 0 (
.loop (
.seq (
.seq (
.region [Q 10 (.mov (.t 4)),
Q 11 (.mov (.t 0)),
Q 12 (.len .sl (.t 11)),
Q 13 (.bin .lss .scalar (.t 10) (.t 12))]) (
.cond (.t 13) (
.skip) (
.exit 0))) (
.seq (
.block 1 (
.seq (
.region [Q 16 (.mov (.t 0)),
Q 17 (.mov (.t 4)),
Q 18 (.iaddr 4 none (.t 16) (.t 17)),
Q 19 (.load true 4 (.t 18)),
E 20 (.callf 243 [(.t 19)]),
Q 5 (.mov (.t 20))]) (
.seq (
.seq (
.region [Q 21 (.mov (.t 5)),
Q 22 (.bin .eql .scalar (.t 21) (cs []))]) (
.cond (.t 22) (
.seq (
.region [Q 2 (.mov (cs []))]) (
.ret)) (
.skip))) (
.region [Q 23 (.mov (.t 3)),
Q 24 (.mov (.t 5)),
Q 25 (.bin .add .scalar (.t 23) (.t 24)),
Q 3 (.mov (.t 25))])))) (
.region [Q 14 (.mov (.t 4)),
Q 15 (.bin .add .scalar (.t 14) (ci 1)),
Q 4 (.mov (.t 15))])))))) (
.seq (
.region [Q 26 (.mov (.t 3)),
Q 2 (.mov (.t 26))]) (
.ret))))
def a176 : AFunc := ⟨c176, [.tmp 2], true⟩
def c177 : ACode :=
.seq (
.region [Q 2 (.mov (cs []))]) (
.seq (
.region [Q 3 (.mov (cs []))]) (
.seq (
.seq (
.region [Q 4 (.mov (ci 0))]) (
.block 0 (
.loop (
.seq (
.seq (
.region [Q 5 (.mov (.t 4)),
Q 6 (.bin .lss .scalar (.t 5) (ci 8))]) (
.cond (.t 6) (
.skip) (
.exit 0))) (
.seq (
.block 1 (
.seq (
.region [Q 9 (.mov (.t 0)),
Q 10 (.bin .rem .scalar (.t 9) (.c (.one (dc (.int .u64 256))))),
Q 11 (.conv (.int .u8) (.t 10)),
M 12 (.bslice 5 1 1 [dc (.int .u8 0)] [(0, 1, (.t 11))]),
Q 13 (.conv .b2s (.t 12)),
Q 14 (.mov (.t 3)),
Q 15 (.bin .add .scalar (.t 13) (.t 14)),
Q 3 (.mov (.t 15))]) (
.region [Q 16 (.mov (.t 0)),
Q 17 (.bin .quo .scalar (.t 16) (.c (.one (dc (.int .u64 256))))),
Q 0 (.mov (.t 17))]))) (
.region [Q 7 (.mov (.t 4)),
Q 8 (.bin .add .scalar (.t 7) (ci 1)),
Q 4 (.mov (.t 8))])))))) (
.seq (
.region [Q 18 (.mov (.t 3)),
Q 2 (.mov (.t 18))]) (
.ret))))
def a177 : AFunc := ⟨c177, [.tmp 2], true⟩
def c178 : ACode :=
.seq (
.region [Q 2 (.mov (.c (.one (dc (.int .u32 0)))))]) (
.seq (
.region [Q 3 (.mov (.t 0)),
E 4 (.callf 244 [(.c (.one (dc (.int .u32 0)))), (.t 3)]),
Q 2 (.mov (.t 4))]) (
.ret))
def a178 : AFunc := ⟨c178, [.tmp 2], true⟩
def c188 : ACode :=
.seq (
.region [Q 6 (.mov (ci 0))]) (
.seq (
.region [Q 11 (.mov (.t 2)),
E 12 (.callv (.t 11) []),
Q 10 (.mov (.t 12)),
Q 13 (.extract 0 (.t 10)),
Q 14 (.extract 1 (.t 10)),
M 7 (.alloc 63 2 [dc (.int .i64 0), dc (.sl [] true)]),
⟨none, .e (.store 2 (.t 7) (.t 13)), none, 0⟩,
Q 8 (.mov (.t 14))]) (
.seq (
.seq (
.region [Q 15 (.mov (.t 8)),
Q 16 (.bin .eql .scalar (.t 15) (ci 0))]) (
.cond (.t 16) (
.draw [⟨0, ⟨some 17, .q (.mov (.t 0)), none, 0⟩⟩,
⟨1, ⟨some 18, .q (.nilck (.t 17)), none, 1⟩⟩,
⟨2, ⟨some 19, .q (.faddr 1 (.t 18)), none, 3⟩⟩,
⟨3, ⟨some 20, .q (.load false 1 (.t 19)), none, 7⟩⟩,
⟨4, ⟨some 21, .q (.load true 2 (.t 7)), none, 0⟩⟩,
⟨5, ⟨some 22, .e (.callf 214 [(.t 21)]), none, 16⟩⟩,
⟨6, ⟨some 23, .e (.callf 251 [(.t 20), (.t 22)]), none, 63⟩⟩,
⟨7, ⟨some 8, .q (.mov (.t 23)), none, 127⟩⟩]) (
.skip))) (
.seq (
.seq (
.region [Q 24 (.mov (.t 8)),
Q 25 (.bin .neq .scalar (.t 24) (ci 0))]) (
.cond (.t 25) (
.seq (
.region [Q 26 (.mov (.t 0)),
Q 27 (.nilck (.t 26)),
Q 28 (.faddr 0 (.t 27)),
Q 29 (.load false 1 (.t 28)),
E 30 (.callf 209 [(.t 29)])]) (
.seq (
.region [Q 6 (.mov (ci 3))]) (
.ret))) (
.skip))) (
.seq (
.region [Q 31 (.mov (.t 0)),
Q 32 (.nilck (.t 31)),
Q 33 (.faddr 0 (.t 32)),
Q 34 (.load false 1 (.t 33)),
E 35 (.callf 138 [(.t 34)]),
Q 9 (.mov (.t 35))]) (
.seq (
.region [Q 36 (.mov (.t 9))]) (
.block 0 (
.seq (
.region [Q 42 (.bin .eql .scalar (.t 36) (ci 0)),
Q 41 (.mov (.t 42))]) (
.cond (.t 41) (
.seq (
.region [Q 43 (.mov (.t 0)),
Q 44 (.mov (.t 0)),
Q 45 (.load true 2 (.t 7)),
Q 46 (.mov (.t 1)),
Q 47 (.nilck (.t 43)),
Q 48 (.faddr 3 (.t 47)),
⟨none, .e (.store 2 (.t 48) (.t 45)), none, 0⟩,
Q 49 (.nilck (.t 44)),
Q 50 (.faddr 2 (.t 49)),
⟨none, .e (.store 1 (.t 50) (.t 46)), none, 0⟩]) (
.seq (
.region [Q 6 (.mov (ci 0))]) (
.ret))) (
.seq (
.region [Q 52 (.bin .eql .scalar (.t 36) (ci 3)),
Q 51 (.mov (.t 52))]) (
.cond (.t 51) (
.seq (
.region [Q 53 (.mov (.t 0)),
Q 54 (.nilck (.t 53)),
Q 55 (.faddr 0 (.t 54)),
Q 56 (.load false 1 (.t 55)),
E 57 (.callf 209 [(.t 56)])]) (
.seq (
.region [Q 58 (.mov (.t 9)),
Q 6 (.mov (.t 58))]) (
.ret))) (
.seq (
.region [Q 37 (.mov (.t 0)),
Q 38 (.nilck (.t 37)),
Q 39 (.faddr 5 (.t 38)),
⟨none, .e (.store 1 (.t 39) (cb true)), none, 0⟩]) (
.seq (
.region [Q 40 (.mov (.t 9)),
Q 6 (.mov (.t 40))]) (
.ret)))))))))))))
def a188 : AFunc := ⟨c188, [.tmp 6], false⟩
def c190 : ACode :=
.seq (
.region [Q 4 (.mov (ci 0))]) (
.seq (
.region [Q 11 (.mov (.t 0)),
Q 12 (.mov (.t 1)),
E 13 (.callf 252 [(.t 11), (.t 12)]),
Q 10 (.mov (.t 13)),
Q 14 (.extract 0 (.t 10)),
Q 15 (.extract 1 (.t 10)),
Q 16 (.extract 2 (.t 10)),
Q 5 (.mov (.t 14)),
Q 6 (.mov (.t 15)),
Q 7 (.mov (.t 16))]) (
.seq (
.seq (
.region [Q 17 (.mov (.t 5)),
Q 18 (.len .sl (.t 17)),
Q 19 (.mov (ci 0))]) (
.block 0 (
.loop (
.seq (
.region [Q 20 (.bin .lss .scalar (.t 19) (.t 18))]) (
.seq (
.cond (.t 20) (
.skip) (
.exit 0)) (
.seq (
.block 1 (
.seq (
.region [Q 21 (.iaddr 1 none (.t 17) (.t 19)),
Q 22 (.load false 1 (.t 21)),
Q 9 (.mov (.t 22))]) (
.region [Q 23 (.mov (.t 0)),
Q 24 (.nilck (.t 23)),
Q 25 (.faddr 0 (.t 24)),
Q 26 (.load false 1 (.t 25)),
Q 27 (.mov (.t 9)),
E 28 (.callf 253 [(.t 26), (.t 27)])]))) (
.region [Q 29 (.bin .add .scalar (.t 19) (ci 1)),
Q 19 (.mov (.t 29))]))))))) (
.seq (
.region [Q 30 (.mov (.t 7)),
Q 4 (.mov (.t 30))]) (
.ret))))
def a190 : AFunc := ⟨c190, [.tmp 4], false⟩
def c191 : ACode :=
.seq (
.region [Q 4 (.mov (ci 0)),
Q 5 (.mov (ci 0))]) (
.seq (
.block 0 (
.seq (
.region [Q 13 (.mov (.t 0)),
E 14 (.callf 210 [(.t 13)]),
Q 15 (.un .not (.t 14)),
Q 12 (.mov (.t 15))]) (
.cond (.t 12) (
.seq (
.region [Q 4 (.mov (ci 0)),
Q 5 (.mov (ci 13))]) (
.ret)) (
.seq (
.region [Q 17 (.mov (.t 1)),
Q 18 (.len .str (.t 17)),
Q 19 (.bin .gtr .scalar (.t 18) (ci 100000)),
Q 16 (.mov (.t 19))]) (
.cond (.t 16) (
.seq (
.region [Q 4 (.mov (ci 0)),
Q 5 (.mov (ci 19))]) (
.ret)) (
.seq (
.region [Q 21 (.mov (.t 0)),
Q 22 (.nilck (.t 21)),
Q 23 (.faddr 0 (.t 22)),
Q 24 (.load false 1 (.t 23)),
E 25 (.callf 254 [(.t 24)]),
Q 26 (.mov (.t 0)),
Q 27 (.mov (.t 1)),
Q 28 (.len .str (.t 27)),
E 29 (.callf 255 [(.t 26), (.t 28)]),
Q 30 (.bin .lss .scalar (.t 25) (.t 29)),
Q 20 (.mov (.t 30))]) (
.cond (.t 20) (
.seq (
.region [Q 4 (.mov (ci 0)),
Q 5 (.mov (ci 3))]) (
.ret)) (
.skip)))))))) (
.seq (
.region [Q 31 (.mov (.t 0)),
Q 32 (.mov (.t 1)),
E 33 (.callf 256 [(.t 31), (.t 32)]),
Q 6 (.mov (.t 33))]) (
.seq (
.region [Q 7 (.mov (.c (.one (dc (.sl [] true)))))]) (
.seq (
.seq (
.region [Q 34 (.mov (.t 6)),
Q 35 (.len .sl (.t 34)),
Q 36 (.mov (ci 0))]) (
.block 1 (
.loop (
.seq (
.region [Q 37 (.bin .lss .scalar (.t 36) (.t 35))]) (
.seq (
.cond (.t 37) (
.skip) (
.exit 1)) (
.seq (
.block 2 (
.seq (
.region [Q 39 (.mov (.t 0)),
Q 40 (.nilck (.t 39)),
Q 41 (.faddr 0 (.t 40)),
Q 42 (.load false 1 (.t 41)),
E 43 (.callf 197 [(.t 42)]),
Q 38 (.mov (.t 43)),
Q 44 (.extract 0 (.t 38)),
Q 45 (.extract 1 (.t 38)),
Q 8 (.mov (.t 44)),
Q 9 (.mov (.t 45))]) (
.region [Q 46 (.mov (.t 7)),
Q 47 (.mov (.t 8)),
M 48 (.bslice 3 1 1 [dc (.int .i64 0)] [(0, 1, (.t 47))]),
E 49 (.append 3 1 8 (.t 46) (.t 48)),
Q 7 (.mov (.t 49))]))) (
.region [Q 50 (.bin .add .scalar (.t 36) (ci 1)),
Q 36 (.mov (.t 50))]))))))) (
.seq (
.region [Q 51 (.mov (.t 7)),
M 52 (.bslice 3 1 1 [dc (.int .i64 0)] [(0, 1, (ci 0))]),
E 53 (.append 3 1 8 (.t 51) (.t 52)),
Q 7 (.mov (.t 53))]) (
.seq (
.seq (
.region [Q 54 (.mov (.t 6)),
Q 55 (.len .sl (.t 54)),
Q 56 (.mov (ci 0))]) (
.block 3 (
.loop (
.seq (
.region [Q 57 (.bin .lss .scalar (.t 56) (.t 55))]) (
.seq (
.cond (.t 57) (
.skip) (
.exit 3)) (
.seq (
.block 4 (
.seq (
.region [Q 58 (.mov (.t 56)),
Q 59 (.iaddr 1 none (.t 54) (.t 56)),
Q 60 (.load false 1 (.t 59)),
Q 10 (.mov (.t 58)),
Q 11 (.mov (.t 60))]) (
.draw [⟨0, ⟨some 61, .q (.mov (.t 0)), none, 0⟩⟩,
⟨1, ⟨some 62, .q (.nilck (.t 61)), none, 1⟩⟩,
⟨2, ⟨some 63, .q (.faddr 0 (.t 62)), none, 3⟩⟩,
⟨3, ⟨some 64, .q (.load false 1 (.t 63)), none, 7⟩⟩,
⟨4, ⟨some 65, .q (.mov (.t 7)), none, 0⟩⟩,
⟨5, ⟨some 66, .q (.mov (.t 10)), none, 0⟩⟩,
⟨6, ⟨some 67, .q (.iaddr 1 none (.t 65) (.t 66)), none, 48⟩⟩,
⟨7, ⟨some 68, .q (.load false 1 (.t 67)), none, 112⟩⟩,
⟨8, ⟨some 69, .q (.mov (.t 7)), none, 0⟩⟩,
⟨9, ⟨some 70, .q (.mov (.t 10)), none, 0⟩⟩,
⟨10, ⟨some 71, .q (.bin .add .scalar (.t 70) (ci 1)), none, 512⟩⟩,
⟨11, ⟨some 72, .q (.iaddr 1 none (.t 69) (.t 71)), none, 1792⟩⟩,
⟨12, ⟨some 73, .q (.load false 1 (.t 72)), none, 3840⟩⟩,
⟨14, ⟨some 75, .q (.mov (.t 11)), none, 0⟩⟩,
⟨15, ⟨some 76, .q (.len .sl (.t 75)), none, 16384⟩⟩,
⟨16, ⟨some 77, .q (.conv (.int .u8) (.t 76)), none, 49152⟩⟩,
⟨17, ⟨some 78, .m (.bslice 5 1 1 [dc (.int .u8 0)] [(0, 1, (.t 77))]), none, 114688⟩⟩,
⟨18, ⟨some 79, .q (.mov (.t 11)), none, 0⟩⟩,
⟨13, ⟨some 74, .e (.callf 257 [(.t 73)]), none, 7936⟩⟩,
⟨19, ⟨some 80, .e (.append 5 1 1 (.t 78) (.t 79)), none, 524032⟩⟩,
⟨20, ⟨some 81, .q (.conv .b2s (.t 80)), none, 1048320⟩⟩,
⟨21, ⟨some 82, .q (.bin .add .scalar (.t 74) (.t 81)), none, 2096896⟩⟩,
⟨22, ⟨some 83, .e (.callf 198 [(.t 64), (.t 68), (.t 82)]), none, 4194303⟩⟩]))) (
.region [Q 84 (.bin .add .scalar (.t 56) (ci 1)),
Q 56 (.mov (.t 84))]))))))) (
.seq (
.region [Q 85 (.mov (.t 7)),
Q 86 (.iaddr 1 none (.t 85) (ci 0)),
Q 87 (.load false 1 (.t 86)),
Q 4 (.mov (.t 87)),
Q 5 (.mov (ci 0))]) (
.ret))))))))
def a191 : AFunc := ⟨c191, [.tmp 4, .tmp 5], false⟩
def c192 : ACode :=
.seq (
.region [Q 0 (.mov (cs []))]) (
.seq (
.region [M 1 (.mkslice 5 1 1 [dc (.int .u8 0)] (ci 128) (ci 128)),
Q 2 (.conv .b2s (.t 1)),
Q 0 (.mov (.t 2))]) (
.ret))
def a192 : AFunc := ⟨c192, [.tmp 0], false⟩
def c193 : ACode :=
.seq (
.region [Q 6 (.mov (.c (.one (dc (.nilp))))),
Q 7 (.mov (ci 0))]) (
.seq (
.seq (
.region [Q 12 (.mov (.t 0)),
E 13 (.callf 134 [(.t 12)]),
Q 14 (.bin .eql .scalar (.t 13) (ci 0)),
Q 15 (.mov (.t 14)),
⟨some 16, .q (.mov (.t 2)), some (15, false), 0⟩,
⟨some 17, .q (.bin .lss .scalar (.t 16) (ci 4)), some (15, false), 0⟩,
Q 18 (.pick (.t 15) (cb true) (.t 17)),
Q 19 (.mov (.t 18)),
⟨some 20, .q (.mov (.t 2)), some (19, false), 0⟩,
⟨some 21, .q (.bin .gtr .scalar (.t 20) (ci 1000)), some (19, false), 0⟩,
Q 22 (.pick (.t 19) (cb true) (.t 21)),
Q 23 (.mov (.t 22)),
⟨some 24, .q (.mov (.t 1)), some (23, false), 0⟩,
⟨some 25, .q (.bin .lss .scalar (.t 24) (ci 0)), some (23, false), 0⟩,
Q 26 (.pick (.t 23) (cb true) (.t 25)),
Q 27 (.mov (.t 26)),
⟨some 28, .q (.mov (.t 1)), some (27, false), 0⟩,
⟨some 29, .q (.mov (.t 0)), some (27, false), 0⟩,
⟨some 30, .e (.callf 134 [(.t 29)]), some (27, false), 0⟩,
⟨some 31, .q (.bin .gtr .scalar (.t 28) (.t 30)), some (27, false), 0⟩,
Q 32 (.pick (.t 27) (cb true) (.t 31)),
Q 33 (.mov (.t 32)),
⟨some 34, .q (.mov (.t 2)), some (33, false), 0⟩,
⟨some 35, .q (.mov (.t 0)), some (33, false), 0⟩,
⟨some 36, .e (.callf 134 [(.t 35)]), some (33, false), 0⟩,
⟨some 37, .q (.mov (.t 1)), some (33, false), 0⟩,
⟨some 38, .q (.bin .sub .scalar (.t 36) (.t 37)), some (33, false), 0⟩,
⟨some 39, .q (.bin .gtr .scalar (.t 34) (.t 38)), some (33, false), 0⟩,
Q 40 (.pick (.t 33) (cb true) (.t 39))]) (
.cond (.t 40) (
.seq (
.region [Q 6 (.mov (.c (.one (dc (.nilp))))),
Q 7 (.mov (ci 1))]) (
.ret)) (
.skip))) (
.seq (
.region [Q 41 (.mov (.t 0)),
Q 42 (.mov (.t 1)),
Q 43 (.mov (.t 2)),
Q 44 (.bin .sub .scalar (.t 43) (ci 2)),
Q 45 (.build [dc (.nilp), dc (.int .i64 0), dc (.int .i64 0), dc (.int .i64 0), dc (.int .i64 0), dc (.int .i64 0), dc (.sl [] true), dc (.bool false)] [(0, 1, (.t 41)), (1, 1, (.t 42)), (2, 1, (.t 44))]),
M 46 (.box 305 8 (.t 45)),
Q 8 (.mov (.t 46))]) (
.seq (
.region [Q 48 (.mov (.t 8)),
Q 49 (.mov (.t 8)),
Q 50 (.mov (.t 8)),
E 51 (.callf 258 [(.t 50), (ci 0)]),
Q 47 (.mov (.t 51)),
Q 52 (.extract 0 (.t 47)),
Q 53 (.extract 1 (.t 47)),
Q 54 (.nilck (.t 48)),
Q 55 (.faddr 3 (.t 54)),
⟨none, .e (.store 1 (.t 55) (.t 52)), none, 0⟩,
Q 56 (.nilck (.t 49)),
Q 57 (.faddr 4 (.t 56)),
⟨none, .e (.store 1 (.t 57) (.t 53)), none, 0⟩]) (
.seq (
.seq (
.region [Q 59 (.mov (.t 8)),
E 60 (.callf 258 [(.t 59), (ci 1)]),
Q 58 (.mov (.t 60)),
Q 61 (.extract 0 (.t 58)),
Q 62 (.extract 1 (.t 58)),
Q 9 (.mov (.t 61)),
Q 10 (.mov (.t 62))]) (
.seq (
.region [Q 63 (.mov (.t 9)),
Q 64 (.mov (.t 8)),
Q 65 (.nilck (.t 64)),
Q 66 (.faddr 3 (.t 65)),
Q 67 (.load false 1 (.t 66)),
Q 68 (.bin .gtr .scalar (.t 63) (.t 67))]) (
.cond (.t 68) (
.region [Q 69 (.mov (.t 8)),
Q 70 (.mov (.t 8)),
Q 71 (.mov (.t 9)),
Q 72 (.mov (.t 10)),
Q 73 (.nilck (.t 69)),
Q 74 (.faddr 3 (.t 73)),
⟨none, .e (.store 1 (.t 74) (.t 71)), none, 0⟩,
Q 75 (.nilck (.t 70)),
Q 76 (.faddr 4 (.t 75)),
⟨none, .e (.store 1 (.t 76) (.t 72)), none, 0⟩]) (
.skip)))) (
.seq (
.region [Q 77 (.mov (.t 8)),
E 78 (.callf 259 [(.t 77)])]) (
.seq (
.seq (
.region [Q 79 (.mov (.t 8)),
Q 80 (.mov (.t 8)),
Q 81 (.nilck (.t 80)),
Q 82 (.faddr 4 (.t 81)),
Q 83 (.load false 1 (.t 82)),
E 84 (.callf 260 [(.t 79), (.t 83)]),
Q 11 (.mov (.t 84))]) (
.seq (
.region [Q 85 (.mov (.t 11)),
Q 86 (.bin .neq .scalar (.t 85) (ci 0))]) (
.cond (.t 86) (
.seq (
.region [Q 87 (.mov (.t 11)),
Q 6 (.mov (.c (.one (dc (.nilp))))),
Q 7 (.mov (.t 87))]) (
.ret)) (
.skip)))) (
.seq (
.region [Q 88 (.mov (.t 8)),
Q 6 (.mov (.t 88)),
Q 7 (.mov (ci 0))]) (
.ret))))))))
def a193 : AFunc := ⟨c193, [.tmp 6, .tmp 7], false⟩
def c194 : ACode :=
.seq (
.region [Q 2 (.mov (ci 0))]) (
.seq (
.region [Q 9 (.mov (.t 0)),
Q 10 (.nilck (.t 9)),
Q 11 (.faddr 1 (.t 10)),
Q 12 (.load false 1 (.t 11)),
E 13 (.callf 261 [(.t 12)]),
Q 3 (.mov (.t 13))]) (
.seq (
.seq (
.region [Q 14 (.mov (.t 3)),
Q 15 (.len .sl (.t 14)),
Q 16 (.bin .eql .scalar (.t 15) (ci 0))]) (
.cond (.t 16) (
.seq (
.region [Q 2 (.mov (ci 0))]) (
.ret)) (
.skip))) (
.seq (
.seq (
.region [Q 17 (.mov (.t 3)),
Q 18 (.len .sl (.t 17)),
Q 19 (.mov (ci 0))]) (
.block 0 (
.loop (
.seq (
.region [Q 20 (.bin .lss .scalar (.t 19) (.t 18))]) (
.seq (
.cond (.t 20) (
.skip) (
.exit 0)) (
.seq (
.block 1 (
.seq (
.region [Q 21 (.iaddr 1 none (.t 17) (.t 19)),
Q 22 (.load false 1 (.t 21)),
Q 5 (.mov (.t 22))]) (
.seq (
.region [Q 24 (.mov (.t 0)),
Q 25 (.mov (.t 5)),
E 26 (.callf 262 [(.t 24), (.t 25)]),
Q 23 (.mov (.t 26)),
Q 27 (.extract 0 (.t 23)),
Q 28 (.extract 1 (.t 23)),
Q 6 (.mov (.t 27)),
Q 7 (.mov (.t 28))]) (
.seq (
.seq (
.region [Q 29 (.mov (.t 7)),
Q 30 (.un .not (.t 29))]) (
.cond (.t 30) (
.exit 1) (
.skip))) (
.seq (
.region [Q 31 (.mov (.t 0)),
Q 32 (.mov (.t 6)),
E 33 (.callf 207 [(.t 31), (.t 32)]),
Q 8 (.mov (.t 33))]) (
.seq (
.region [Q 34 (.mov (.t 8)),
Q 35 (.bin .neq .scalar (.t 34) (ci 0))]) (
.cond (.t 35) (
.seq (
.region [Q 36 (.mov (.t 8)),
Q 2 (.mov (.t 36))]) (
.ret)) (
.skip)))))))) (
.region [Q 37 (.bin .add .scalar (.t 19) (ci 1)),
Q 19 (.mov (.t 37))]))))))) (
.seq (
.region [Q 38 (.mov (.t 0)),
E 39 (.callf 208 [(.t 38)]),
Q 2 (.mov (.t 39))]) (
.ret)))))
def a194 : AFunc := ⟨c194, [.tmp 2], false⟩
def c195 : ACode :=
.seq (
.region [Q 2 (.mov (ci 0))]) (
.seq (
.seq (
.region [Q 3 (.mov (.t 0)),
E 4 (.callf 200 [(.t 3)]),
Q 5 (.un .not (.t 4))]) (
.cond (.t 5) (
.seq (
.region [Q 2 (.mov (ci 0))]) (
.ret)) (
.skip))) (
.seq (
.draw [⟨0, ⟨some 6, .q (.mov (.t 0)), none, 0⟩⟩,
⟨1, ⟨some 7, .q (.nilck (.t 6)), none, 1⟩⟩,
⟨2, ⟨some 8, .q (.faddr 0 (.t 7)), none, 3⟩⟩,
⟨3, ⟨some 9, .q (.load false 1 (.t 8)), none, 7⟩⟩,
⟨5, ⟨some 11, .q (.mov (.t 0)), none, 0⟩⟩,
⟨6, ⟨some 12, .q (.nilck (.t 11)), none, 32⟩⟩,
⟨7, ⟨some 13, .q (.faddr 2 (.t 12)), none, 96⟩⟩,
⟨8, ⟨some 14, .q (.load false 1 (.t 13)), none, 224⟩⟩,
⟨4, ⟨some 10, .e (.callf 134 [(.t 9)]), none, 15⟩⟩,
⟨9, ⟨some 15, .q (.bin .sub .scalar (.t 10) (.t 14)), none, 511⟩⟩,
⟨10, ⟨some 2, .q (.mov (.t 15)), none, 1023⟩⟩]) (
.ret)))
def a195 : AFunc := ⟨c195, [.tmp 2], false⟩
def c196 : ACode :=
.seq (
.region [Q 4 (.mov (cb false))]) (
.seq (
.seq (
.region [Q 7 (.mov (.t 1)),
Q 8 (.bin .eql .scalar (.t 7) (ci 0)),
Q 9 (.mov (.t 8)),
⟨some 10, .q (.mov (.t 0)), some (9, false), 0⟩,
⟨some 11, .q (.mov (.t 1)), some (9, false), 0⟩,
⟨some 12, .e (.callf 263 [(.t 10), (.t 11)]), some (9, false), 0⟩,
⟨some 13, .q (.bin .neq .scalar (.t 12) (ci 0)), some (9, false), 0⟩,
Q 14 (.pick (.t 9) (cb true) (.t 13))]) (
.cond (.t 14) (
.seq (
.region [Q 4 (.mov (cb false))]) (
.ret)) (
.skip))) (
.seq (
.region [Q 16 (.mov (.t 0)),
E 17 (.callf 199 [(.t 16), (ci 0)]),
Q 15 (.mov (.t 17)),
Q 18 (.extract 0 (.t 15)),
Q 19 (.extract 1 (.t 15)),
Q 5 (.mov (.t 18)),
Q 6 (.mov (.t 19))]) (
.seq (
.draw [⟨0, ⟨some 20, .q (.mov (.t 5)), none, 0⟩⟩,
⟨1, ⟨some 21, .q (.mov (.t 1)), none, 0⟩⟩,
⟨2, ⟨some 22, .q (.bin .quo .scalar (.t 21) (ci 8)), none, 2⟩⟩,
⟨3, ⟨some 23, .q (.sidx (.t 20) (.t 22)), none, 7⟩⟩,
⟨4, ⟨some 24, .q (.mov (.t 1)), none, 0⟩⟩,
⟨5, ⟨some 25, .e (.callf 264 [(.t 24)]), none, 16⟩⟩,
⟨6, ⟨some 26, .q (.bin .and .scalar (.t 23) (.t 25)), none, 63⟩⟩,
⟨7, ⟨some 27, .q (.bin .eql .scalar (.t 26) (.c (.one (dc (.int .u8 0))))), none, 127⟩⟩,
⟨8, ⟨some 4, .q (.mov (.t 27)), none, 255⟩⟩]) (
.ret))))
def a196 : AFunc := ⟨c196, [.tmp 4], false⟩
def c197 : ACode :=
.seq (
.region [Q 2 (.mov (ci 0)),
Q 3 (.mov (ci 0))]) (
.seq (
.seq (
.region [Q 5 (.mov (.t 0)),
E 6 (.callf 200 [(.t 5)]),
Q 7 (.un .not (.t 6))]) (
.cond (.t 7) (
.seq (
.region [Q 2 (.mov (ci 0)),
Q 3 (.mov (ci 13))]) (
.ret)) (
.skip))) (
.seq (
.seq (
.region [Q 8 (.mov (.t 0)),
E 9 (.callf 195 [(.t 8)]),
Q 10 (.mov (ci 0))]) (
.block 0 (
.loop (
.seq (
.region [Q 11 (.bin .lss .scalar (.t 10) (.t 9))]) (
.seq (
.cond (.t 11) (
.skip) (
.exit 0)) (
.seq (
.block 1 (
.seq (
.region [Q 12 (.mov (.t 10)),
Q 4 (.mov (.t 12))]) (
.seq (
.region [Q 13 (.mov (.t 0)),
Q 14 (.mov (.t 4)),
E 15 (.callf 196 [(.t 13), (.t 14)])]) (
.cond (.t 15) (
.seq (
.region [Q 16 (.mov (.t 0)),
Q 17 (.mov (.t 4)),
E 18 (.callf 265 [(.t 16), (.t 17)])]) (
.seq (
.draw [⟨0, ⟨some 19, .q (.mov (.t 0)), none, 0⟩⟩,
⟨1, ⟨some 20, .q (.nilck (.t 19)), none, 1⟩⟩,
⟨2, ⟨some 21, .q (.faddr 3 (.t 20)), none, 3⟩⟩,
⟨3, ⟨some 22, .q (.load false 1 (.t 21)), none, 7⟩⟩,
⟨4, ⟨some 23, .q (.mov (.t 4)), none, 0⟩⟩,
⟨5, ⟨some 24, .e (.callf 266 []), none, 0⟩⟩,
⟨6, ⟨none, .e (.mapup (.int .i64) (.t 22) (.t 23) (.t 24)), none, 63⟩⟩]) (
.seq (
.region [Q 25 (.mov (.t 4)),
Q 2 (.mov (.t 25)),
Q 3 (.mov (ci 0))]) (
.ret)))) (
.skip))))) (
.region [Q 26 (.bin .add .scalar (.t 10) (ci 1)),
Q 10 (.mov (.t 26))]))))))) (
.seq (
.region [Q 2 (.mov (ci 0)),
Q 3 (.mov (ci 3))]) (
.ret))))
def a197 : AFunc := ⟨c197, [.tmp 2, .tmp 3], false⟩
def c198 : ACode :=
.seq (
.region [Q 6 (.mov (ci 0))]) (
.seq (
.region [Q 8 (.mov (.t 0)),
Q 9 (.mov (.t 1)),
E 10 (.callf 263 [(.t 8), (.t 9)]),
Q 7 (.mov (.t 10))]) (
.seq (
.block 0 (
.seq (
.region [Q 12 (.mov (.t 7)),
Q 13 (.bin .neq .scalar (.t 12) (ci 0)),
Q 11 (.mov (.t 13))]) (
.cond (.t 11) (
.seq (
.region [Q 14 (.mov (.t 7)),
Q 6 (.mov (.t 14))]) (
.ret)) (
.seq (
.region [Q 16 (.mov (.t 1)),
Q 17 (.bin .eql .scalar (.t 16) (ci 0)),
Q 15 (.mov (.t 17))]) (
.cond (.t 15) (
.seq (
.region [Q 6 (.mov (ci 1))]) (
.ret)) (
.seq (
.region [Q 19 (.mov (.t 2)),
Q 20 (.len .str (.t 19)),
Q 21 (.bin .gtr .scalar (.t 20) (ci 128)),
Q 18 (.mov (.t 21))]) (
.cond (.t 18) (
.seq (
.region [Q 6 (.mov (ci 19))]) (
.ret)) (
.skip)))))))) (
.seq (
.draw [⟨0, ⟨some 22, .q (.mov (.t 0)), none, 0⟩⟩,
⟨1, ⟨some 23, .q (.nilck (.t 22)), none, 1⟩⟩,
⟨2, ⟨some 24, .q (.faddr 3 (.t 23)), none, 3⟩⟩,
⟨3, ⟨some 25, .q (.load false 1 (.t 24)), none, 7⟩⟩,
⟨4, ⟨some 26, .q (.mov (.t 1)), none, 0⟩⟩,
⟨5, ⟨some 27, .q (.mov (.t 2)), none, 0⟩⟩,
⟨6, ⟨some 28, .e (.callf 267 [(.t 27)]), none, 32⟩⟩,
⟨7, ⟨none, .e (.mapup (.int .i64) (.t 25) (.t 26) (.t 28)), none, 127⟩⟩]) (
.seq (
.region [Q 6 (.mov (ci 0))]) (
.ret)))))
def a198 : AFunc := ⟨c198, [.tmp 6], false⟩
def c199 : ACode :=
.seq (
.region [Q 4 (.mov (cs [])),
Q 5 (.mov (ci 0))]) (
.seq (
.seq (
.region [Q 9 (.mov (.t 0)),
Q 10 (.mov (.t 1)),
E 11 (.callf 263 [(.t 9), (.t 10)]),
Q 6 (.mov (.t 11))]) (
.seq (
.region [Q 12 (.mov (.t 6)),
Q 13 (.bin .neq .scalar (.t 12) (ci 0))]) (
.cond (.t 13) (
.seq (
.region [Q 14 (.mov (.t 6)),
Q 4 (.mov (cs [])),
Q 5 (.mov (.t 14))]) (
.ret)) (
.skip)))) (
.seq (
.seq (
.region [Q 16 (.mov (.t 0)),
Q 17 (.nilck (.t 16)),
Q 18 (.faddr 3 (.t 17)),
Q 19 (.load false 1 (.t 18)),
Q 20 (.mov (.t 1)),
Q 21 (.lookup (.int .i64) (.one (dc (.str []))) true (.t 19) (.t 20)),
Q 15 (.mov (.t 21)),
Q 22 (.extract 0 (.t 15)),
Q 23 (.extract 1 (.t 15)),
Q 7 (.mov (.t 22)),
Q 8 (.mov (.t 23))]) (
.seq (
.region [Q 24 (.mov (.t 8))]) (
.cond (.t 24) (
.seq (
.region [Q 25 (.mov (.t 7)),
Q 4 (.mov (.t 25)),
Q 5 (.mov (ci 0))]) (
.ret)) (
.skip)))) (
.seq (
.draw [⟨0, ⟨some 26, .q (.mov (.t 0)), none, 0⟩⟩,
⟨1, ⟨some 27, .q (.nilck (.t 26)), none, 1⟩⟩,
⟨2, ⟨some 28, .q (.faddr 0 (.t 27)), none, 3⟩⟩,
⟨3, ⟨some 29, .q (.load false 1 (.t 28)), none, 7⟩⟩,
⟨4, ⟨some 30, .q (.mov (.t 0)), none, 0⟩⟩,
⟨5, ⟨some 31, .q (.nilck (.t 30)), none, 16⟩⟩,
⟨6, ⟨some 32, .q (.faddr 2 (.t 31)), none, 48⟩⟩,
⟨7, ⟨some 33, .q (.load false 1 (.t 32)), none, 112⟩⟩,
⟨8, ⟨some 34, .q (.mov (.t 1)), none, 0⟩⟩,
⟨9, ⟨some 35, .q (.bin .add .scalar (.t 33) (.t 34)), none, 496⟩⟩,
⟨10, ⟨some 36, .e (.callf 268 [(.t 29), (.t 35)]), none, 1023⟩⟩,
⟨11, ⟨some 37, .q (.extract 0 (.t 36)), none, 2047⟩⟩,
⟨12, ⟨some 38, .q (.extract 1 (.t 36)), none, 2047⟩⟩,
⟨13, ⟨some 4, .q (.mov (.t 37)), none, 8191⟩⟩,
⟨14, ⟨some 5, .q (.mov (.t 38)), none, 16383⟩⟩]) (
.ret))))
def a199 : AFunc := ⟨c199, [.tmp 4, .tmp 5], false⟩
def c200 : ACode :=
.seq (
.region [Q 2 (.mov (cb false))]) (
.seq (
.region [Q 3 (.mov (.t 0)),
Q 4 (.bin .neq .ptr (.t 3) (.c (.one (dc (.nilp))))),
Q 5 (.mov (.t 4)),
⟨some 6, .q (.mov (.t 0)), some (5, true), 0⟩,
⟨some 7, .q (.nilck (.t 6)), some (5, true), 0⟩,
⟨some 8, .q (.faddr 0 (.t 7)), some (5, true), 0⟩,
⟨some 9, .q (.load false 1 (.t 8)), some (5, true), 0⟩,
⟨some 10, .q (.bin .neq .ptr (.t 9) (.c (.one (dc (.nilp))))), some (5, true), 0⟩,
Q 11 (.pick (.t 5) (.t 10) (cb false)),
Q 2 (.mov (.t 11))]) (
.ret))
def a200 : AFunc := ⟨c200, [.tmp 2], false⟩
def c201 : ACode :=
.seq (
.region [Q 4 (.mov (cs []))]) (
.seq (
.region [Q 9 (.mov (.t 1)),
Q 10 (.len .map (.t 9)),
Q 11 (.conv (.int .u64) (.t 10)),
E 12 (.callf 110 [(.t 11)]),
Q 5 (.mov (.t 12))]) (
.seq (
.seq (
.region [Q 13 (.mov (.t 0)),
E 14 (.callf 195 [(.t 13)]),
Q 15 (.mov (ci 0))]) (
.block 0 (
.loop (
.seq (
.region [Q 16 (.bin .lss .scalar (.t 15) (.t 14))]) (
.seq (
.cond (.t 16) (
.skip) (
.exit 0)) (
.seq (
.block 1 (
.seq (
.region [Q 17 (.mov (.t 15)),
Q 6 (.mov (.t 17))]) (
.seq (
.region [Q 19 (.mov (.t 1)),
Q 20 (.mov (.t 6)),
Q 21 (.lookup (.int .i64) (.one (dc (.str []))) true (.t 19) (.t 20)),
Q 18 (.mov (.t 21)),
Q 22 (.extract 0 (.t 18)),
Q 23 (.extract 1 (.t 18)),
Q 7 (.mov (.t 22)),
Q 8 (.mov (.t 23))]) (
.seq (
.region [Q 24 (.mov (.t 8))]) (
.cond (.t 24) (
.region [Q 25 (.mov (.t 5)),
Q 26 (.mov (.t 6)),
Q 27 (.conv (.int .u64) (.t 26)),
E 28 (.callf 110 [(.t 27)]),
Q 29 (.mov (.t 7)),
E 30 (.callf 269 [(.t 29)]),
E 31 (.callf 111 [(.t 30)]),
Q 32 (.bin .add .scalar (.t 28) (.t 31)),
Q 33 (.bin .add .scalar (.t 25) (.t 32)),
Q 5 (.mov (.t 33))]) (
.skip)))))) (
.region [Q 34 (.bin .add .scalar (.t 15) (ci 1)),
Q 15 (.mov (.t 34))]))))))) (
.seq (
.region [Q 35 (.mov (.t 5)),
Q 4 (.mov (.t 35))]) (
.ret))))
def a201 : AFunc := ⟨c201, [.tmp 4], false⟩
def c202 : ACode :=
.seq (
.region [Q 4 (.mov (cb false))]) (
.seq (
.seq (
.region [Q 5 (.mov (.t 0)),
Q 6 (.bin .eql .ptr (.t 5) (.c (.one (dc (.nilp))))),
Q 7 (.mov (.t 6)),
⟨some 8, .q (.mov (.t 0)), some (7, false), 0⟩,
⟨some 9, .q (.nilck (.t 8)), some (7, false), 0⟩,
⟨some 10, .q (.faddr 0 (.t 9)), some (7, false), 0⟩,
⟨some 11, .q (.load false 1 (.t 10)), some (7, false), 0⟩,
⟨some 12, .q (.bin .eql .ptr (.t 11) (.c (.one (dc (.nilp))))), some (7, false), 0⟩,
Q 13 (.pick (.t 7) (cb true) (.t 12)),
Q 14 (.mov (.t 13)),
⟨some 15, .q (.mov (.t 1)), some (14, false), 0⟩,
⟨some 16, .q (.bin .lss .scalar (.t 15) (ci 0)), some (14, false), 0⟩,
Q 17 (.pick (.t 14) (cb true) (.t 16)),
Q 18 (.mov (.t 17)),
⟨some 19, .q (.mov (.t 1)), some (18, false), 0⟩,
⟨some 20, .q (.bin .gtr .scalar (.t 19) (ci 100000)), some (18, false), 0⟩,
Q 21 (.pick (.t 18) (cb true) (.t 20))]) (
.cond (.t 21) (
.seq (
.region [Q 4 (.mov (cb false))]) (
.ret)) (
.skip))) (
.seq (
.draw [⟨0, ⟨some 22, .q (.mov (.t 1)), none, 0⟩⟩,
⟨1, ⟨some 23, .q (.bin .add .scalar (.t 22) (ci 100)), none, 1⟩⟩,
⟨2, ⟨some 24, .q (.bin .sub .scalar (.t 23) (ci 1)), none, 3⟩⟩,
⟨3, ⟨some 25, .q (.bin .quo .scalar (.t 24) (ci 100)), none, 7⟩⟩,
⟨4, ⟨some 26, .q (.mnmx true (ci 1) (.t 25)), none, 15⟩⟩,
⟨5, ⟨some 27, .q (.mov (.t 0)), none, 0⟩⟩,
⟨6, ⟨some 28, .q (.nilck (.t 27)), none, 32⟩⟩,
⟨7, ⟨some 29, .q (.faddr 2 (.t 28)), none, 96⟩⟩,
⟨8, ⟨some 30, .q (.load false 1 (.t 29)), none, 224⟩⟩,
⟨9, ⟨some 31, .q (.mov (.t 0)), none, 0⟩⟩,
⟨10, ⟨some 32, .q (.nilck (.t 31)), none, 512⟩⟩,
⟨11, ⟨some 33, .q (.faddr 5 (.t 32)), none, 1536⟩⟩,
⟨12, ⟨some 34, .q (.load false 1 (.t 33)), none, 3584⟩⟩,
⟨13, ⟨some 35, .q (.bin .sub .scalar (.t 30) (.t 34)), none, 8160⟩⟩,
⟨14, ⟨some 36, .q (.bin .leq .scalar (.t 26) (.t 35)), none, 16383⟩⟩,
⟨15, ⟨some 4, .q (.mov (.t 36)), none, 32767⟩⟩]) (
.ret)))
def a202 : AFunc := ⟨c202, [.tmp 4], false⟩
def c203 : ACode :=
.seq (
.region [Q 2 (.mov (ci 0))]) (
.seq (
.draw [⟨0, ⟨some 3, .q (.load false 1 (.t 0)), none, 0⟩⟩,
⟨1, ⟨some 4, .q (.nilck (.t 3)), none, 1⟩⟩,
⟨2, ⟨some 5, .q (.faddr 1 (.t 4)), none, 3⟩⟩,
⟨3, ⟨some 6, .q (.load false 1 (.t 5)), none, 7⟩⟩,
⟨4, ⟨some 7, .q (.load false 1 (.t 1)), none, 0⟩⟩,
⟨5, ⟨some 8, .e (.callf 204 [(.t 6), (.t 7)]), none, 31⟩⟩,
⟨6, ⟨some 2, .q (.mov (.t 8)), none, 63⟩⟩]) (
.ret))
def a203 : AFunc := ⟨c203, [.tmp 2], false⟩
def c204 : ACode :=
.seq (
.region [Q 4 (.mov (ci 0))]) (
.seq (
.seq (
.region [Q 12 (.mov (.t 0)),
E 13 (.callf 270 [(.t 12)]),
Q 5 (.mov (.t 13))]) (
.seq (
.region [Q 14 (.mov (.t 5)),
Q 15 (.bin .neq .scalar (.t 14) (ci 0))]) (
.cond (.t 15) (
.seq (
.region [Q 16 (.mov (.t 5)),
Q 4 (.mov (.t 16))]) (
.ret)) (
.skip)))) (
.seq (
.seq (
.region [Q 17 (.mov (.t 0)),
Q 18 (.mov (.t 1)),
Q 19 (.len .str (.t 18)),
E 20 (.callf 202 [(.t 17), (.t 19)]),
Q 21 (.un .not (.t 20))]) (
.cond (.t 21) (
.seq (
.region [Q 4 (.mov (ci 3))]) (
.ret)) (
.skip))) (
.seq (
.region [Q 22 (.mov (.t 1)),
E 23 (.callf 271 [(.t 22)]),
Q 6 (.mov (.t 23))]) (
.seq (
.seq (
.region [Q 24 (.mov (.t 6)),
Q 25 (.len .sl (.t 24)),
Q 26 (.mov (ci 0))]) (
.block 0 (
.loop (
.seq (
.region [Q 27 (.bin .lss .scalar (.t 26) (.t 25))]) (
.seq (
.cond (.t 27) (
.skip) (
.exit 0)) (
.seq (
.block 1 (
.seq (
.region [Q 28 (.mov (.t 26)),
Q 29 (.iaddr 1 none (.t 24) (.t 26)),
Q 30 (.load false 1 (.t 29)),
Q 7 (.mov (.t 28)),
Q 8 (.mov (.t 30))]) (
.seq (
.region [Q 9 (.mov (ci 1))]) (
.seq (
.seq (
.region [Q 31 (.mov (.t 7)),
Q 32 (.mov (.t 6)),
Q 33 (.len .sl (.t 32)),
Q 34 (.bin .sub .scalar (.t 33) (ci 1)),
Q 35 (.bin .eql .scalar (.t 31) (.t 34))]) (
.cond (.t 35) (
.region [Q 9 (.mov (ci 0))]) (
.skip))) (
.seq (
.region [Q 36 (.mov (.t 0)),
Q 37 (.nilck (.t 36)),
Q 38 (.faddr 5 (.t 37)),
Q 39 (.load false 1 (.t 38)),
Q 40 (.mov (.t 7)),
Q 41 (.bin .add .scalar (.t 39) (.t 40)),
Q 10 (.mov (.t 41))]) (
.seq (
.draw [⟨0, ⟨some 42, .q (.mov (.t 0)), none, 0⟩⟩,
⟨1, ⟨some 43, .q (.mov (.t 0)), none, 0⟩⟩,
⟨2, ⟨some 44, .q (.nilck (.t 43)), none, 2⟩⟩,
⟨3, ⟨some 45, .q (.faddr 0 (.t 44)), none, 6⟩⟩,
⟨4, ⟨some 46, .q (.load false 1 (.t 45)), none, 14⟩⟩,
⟨5, ⟨some 47, .q (.mov (.t 0)), none, 0⟩⟩,
⟨6, ⟨some 48, .q (.nilck (.t 47)), none, 32⟩⟩,
⟨7, ⟨some 49, .q (.faddr 1 (.t 48)), none, 96⟩⟩,
⟨8, ⟨some 50, .q (.load false 1 (.t 49)), none, 224⟩⟩,
⟨9, ⟨some 51, .q (.bin .add .scalar (.t 50) (ci 2)), none, 480⟩⟩,
⟨10, ⟨some 52, .q (.mov (.t 10)), none, 0⟩⟩,
⟨11, ⟨some 53, .q (.bin .add .scalar (.t 51) (.t 52)), none, 2016⟩⟩,
⟨12, ⟨some 54, .q (.mov (.t 0)), none, 0⟩⟩,
⟨13, ⟨some 55, .q (.nilck (.t 54)), none, 4096⟩⟩,
⟨14, ⟨some 56, .q (.faddr 3 (.t 55)), none, 12288⟩⟩,
⟨15, ⟨some 57, .q (.load false 1 (.t 56)), none, 28672⟩⟩,
⟨16, ⟨some 58, .q (.mov (.t 10)), none, 0⟩⟩,
⟨17, ⟨some 59, .q (.mov (.t 9)), none, 0⟩⟩,
⟨19, ⟨some 61, .q (.mov (.t 1)), none, 0⟩⟩,
⟨22, ⟨some 64, .q (.mov (.t 8)), none, 0⟩⟩,
⟨18, ⟨some 60, .e (.callf 275 [(.t 57), (.t 58), (.t 59)]), none, 258048⟩⟩,
⟨20, ⟨some 62, .e (.callf 276 [(.t 61)]), none, 1044480⟩⟩,
⟨21, ⟨some 63, .q (.bin .add .scalar (.t 60) (.t 62)), none, 2093056⟩⟩,
⟨23, ⟨some 65, .q (.bin .add .scalar (.t 63) (.t 64)), none, 8384512⟩⟩,
⟨24, ⟨some 66, .e (.callf 274 [(.t 65)]), none, 16773120⟩⟩,
⟨25, ⟨some 67, .e (.callf 273 [(.t 46), (.t 53), (.t 66)]), none, 33554430⟩⟩,
⟨26, ⟨some 68, .e (.callf 272 [(.t 42), (.t 67)]), none, 67108863⟩⟩,
⟨27, ⟨some 11, .q (.mov (.t 68)), none, 134217727⟩⟩]) (
.seq (
.region [Q 69 (.mov (.t 11)),
Q 70 (.bin .neq .scalar (.t 69) (ci 0))]) (
.cond (.t 70) (
.seq (
.region [Q 71 (.mov (.t 11)),
Q 4 (.mov (.t 71))]) (
.ret)) (
.skip))))))))) (
.region [Q 72 (.bin .add .scalar (.t 26) (ci 1)),
Q 26 (.mov (.t 72))]))))))) (
.seq (
.region [Q 73 (.mov (.t 0)),
Q 74 (.mov (.t 0)),
Q 75 (.nilck (.t 74)),
Q 76 (.faddr 6 (.t 75)),
Q 77 (.load false 1 (.t 76)),
Q 78 (.mov (.t 1)),
M 79 (.bslice 9 1 1 [dc (.str [])] [(0, 1, (.t 78))]),
E 80 (.append 9 1 16 (.t 77) (.t 79)),
Q 81 (.nilck (.t 73)),
Q 82 (.faddr 6 (.t 81)),
⟨none, .e (.store 1 (.t 82) (.t 80)), none, 0⟩]) (
.seq (
.region [Q 83 (.mov (.t 0)),
Q 84 (.nilck (.t 83)),
Q 85 (.faddr 5 (.t 84)),
Q 86 (.load false 1 (.t 85)),
Q 87 (.mov (.t 6)),
Q 88 (.len .sl (.t 87)),
Q 89 (.bin .add .scalar (.t 86) (.t 88)),
Q 90 (.nilck (.t 83)),
Q 91 (.faddr 5 (.t 90)),
⟨none, .e (.store 1 (.t 91) (.t 89)), none, 0⟩]) (
.seq (
.region [Q 4 (.mov (ci 0))]) (
.ret))))))))
def a204 : AFunc := ⟨c204, [.tmp 4], false⟩
def c205 : ACode :=
.seq (
.region [Q 2 (.mov (ci 0))]) (
.seq (
.seq (
.region [Q 4 (.mov (.t 0)),
E 5 (.callf 270 [(.t 4)]),
Q 3 (.mov (.t 5))]) (
.seq (
.region [Q 6 (.mov (.t 3)),
Q 7 (.bin .neq .scalar (.t 6) (ci 0))]) (
.cond (.t 7) (
.seq (
.region [Q 8 (.mov (.t 3)),
Q 2 (.mov (.t 8))]) (
.ret)) (
.skip)))) (
.seq (
.region [Q 9 (.mov (.t 0)),
Q 10 (.mov (.t 0)),
Q 11 (.nilck (.t 10)),
Q 12 (.faddr 0 (.t 11)),
Q 13 (.load false 1 (.t 12)),
E 14 (.callf 277 [(.t 13)]),
E 15 (.callf 272 [(.t 9), (.t 14)]),
Q 2 (.mov (.t 15))]) (
.ret)))
def a205 : AFunc := ⟨c205, [.tmp 2], false⟩
def c206 : ACode :=
.seq (
.region [Q 1 (.mov (ci 0))]) (
.seq (
.draw [⟨0, ⟨some 2, .q (.load false 1 (.t 0)), none, 0⟩⟩,
⟨1, ⟨some 3, .q (.load false 1 (.t 0)), none, 0⟩⟩,
⟨2, ⟨some 4, .q (.nilck (.t 3)), none, 2⟩⟩,
⟨3, ⟨some 5, .q (.faddr 3 (.t 4)), none, 6⟩⟩,
⟨4, ⟨some 6, .q (.load false 1 (.t 5)), none, 14⟩⟩,
⟨5, ⟨some 7, .e (.callf 207 [(.t 2), (.t 6)]), none, 31⟩⟩,
⟨6, ⟨some 1, .q (.mov (.t 7)), none, 63⟩⟩]) (
.ret))
def a206 : AFunc := ⟨c206, [.tmp 1], false⟩
def c207 : ACode :=
.seq (
.region [Q 4 (.mov (ci 0))]) (
.seq (
.seq (
.region [Q 9 (.mov (.t 0)),
E 10 (.callf 195 [(.t 9)]),
Q 11 (.mov (ci 0))]) (
.block 0 (
.loop (
.seq (
.region [Q 12 (.bin .lss .scalar (.t 11) (.t 10))]) (
.seq (
.cond (.t 12) (
.skip) (
.exit 0)) (
.seq (
.block 1 (
.seq (
.region [Q 13 (.mov (.t 11)),
Q 5 (.mov (.t 13))]) (
.seq (
.region [Q 15 (.mov (.t 1)),
Q 16 (.mov (.t 5)),
Q 17 (.lookup (.int .i64) (.one (dc (.str []))) true (.t 15) (.t 16)),
Q 14 (.mov (.t 17)),
Q 18 (.extract 0 (.t 14)),
Q 19 (.extract 1 (.t 14)),
Q 6 (.mov (.t 18)),
Q 7 (.mov (.t 19))]) (
.seq (
.seq (
.region [Q 20 (.mov (.t 7)),
Q 21 (.un .not (.t 20))]) (
.cond (.t 21) (
.exit 1) (
.skip))) (
.seq (
.draw [⟨0, ⟨some 22, .q (.mov (.t 0)), none, 0⟩⟩,
⟨1, ⟨some 23, .q (.nilck (.t 22)), none, 1⟩⟩,
⟨2, ⟨some 24, .q (.faddr 0 (.t 23)), none, 3⟩⟩,
⟨3, ⟨some 25, .q (.load false 1 (.t 24)), none, 7⟩⟩,
⟨4, ⟨some 26, .q (.mov (.t 0)), none, 0⟩⟩,
⟨5, ⟨some 27, .q (.nilck (.t 26)), none, 16⟩⟩,
⟨6, ⟨some 28, .q (.faddr 2 (.t 27)), none, 48⟩⟩,
⟨7, ⟨some 29, .q (.load false 1 (.t 28)), none, 112⟩⟩,
⟨8, ⟨some 30, .q (.mov (.t 5)), none, 0⟩⟩,
⟨9, ⟨some 31, .q (.bin .add .scalar (.t 29) (.t 30)), none, 496⟩⟩,
⟨10, ⟨some 32, .q (.mov (.t 6)), none, 0⟩⟩,
⟨11, ⟨some 33, .e (.callf 273 [(.t 25), (.t 31), (.t 32)]), none, 2047⟩⟩,
⟨12, ⟨some 8, .q (.mov (.t 33)), none, 4095⟩⟩]) (
.seq (
.region [Q 34 (.mov (.t 8)),
Q 35 (.bin .neq .scalar (.t 34) (ci 0))]) (
.cond (.t 35) (
.seq (
.region [Q 36 (.mov (.t 8)),
Q 4 (.mov (.t 36))]) (
.ret)) (
.skip)))))))) (
.region [Q 37 (.bin .add .scalar (.t 11) (ci 1)),
Q 11 (.mov (.t 37))]))))))) (
.seq (
.region [Q 4 (.mov (ci 0))]) (
.ret)))
def a207 : AFunc := ⟨c207, [.tmp 4], false⟩
def c208 : ACode :=
.seq (
.region [Q 2 (.mov (ci 0))]) (
.seq (
.seq (
.region [Q 4 (.mov (.t 0)),
Q 5 (.nilck (.t 4)),
Q 6 (.faddr 0 (.t 5)),
Q 7 (.load false 1 (.t 6)),
E 8 (.callf 277 [(.t 7)]),
Q 3 (.mov (.t 8))]) (
.seq (
.region [Q 9 (.mov (.t 3)),
Q 10 (.bin .neq .scalar (.t 9) (ci 0))]) (
.cond (.t 10) (
.seq (
.region [Q 11 (.mov (.t 3)),
Q 2 (.mov (.t 11))]) (
.ret)) (
.skip)))) (
.seq (
.region [Q 12 (.mov (.t 0)),
Q 13 (.nilck (.t 12)),
Q 14 (.faddr 1 (.t 13)),
Q 15 (.load false 1 (.t 14)),
E 16 (.callf 278 [(.t 15)]),
Q 2 (.mov (.t 16))]) (
.ret)))
def a208 : AFunc := ⟨c208, [.tmp 2], false⟩
def c209 : ACode :=
.seq (
.seq (
.region [Q 4 (.mov (.t 0)),
E 5 (.callf 200 [(.t 4)]),
Q 6 (.un .not (.t 5))]) (
.cond (.t 6) (
.ret) (
.skip))) (
.seq (
.region [Q 7 (.mov (.t 0)),
E 8 (.callf 279 [(.t 7)]),
Q 9 (.len .sl (.t 8)),
Q 10 (.mov (ci 0))]) (
.block 0 (
.loop (
.seq (
.region [Q 11 (.bin .lss .scalar (.t 10) (.t 9))]) (
.seq (
.cond (.t 11) (
.skip) (
.exit 0)) (
.seq (
.block 1 (
.seq (
.region [Q 12 (.iaddr 1 none (.t 8) (.t 10)),
Q 13 (.load false 1 (.t 12)),
Q 3 (.mov (.t 13))]) (
.region [Q 14 (.mov (.t 0)),
Q 15 (.nilck (.t 14)),
Q 16 (.faddr 3 (.t 15)),
Q 17 (.load false 1 (.t 16)),
Q 18 (.mov (.t 3)),
⟨none, .e (.del (.int .i64) (.t 17) (.t 18)), none, 0⟩]))) (
.region [Q 19 (.bin .add .scalar (.t 10) (ci 1)),
Q 10 (.mov (.t 19))])))))))
def a209 : AFunc := ⟨c209, [], false⟩
def c210 : ACode :=
.seq (
.region [Q 2 (.mov (cb false))]) (
.seq (
.region [Q 3 (.mov (.t 0)),
Q 4 (.bin .neq .ptr (.t 3) (.c (.one (dc (.nilp))))),
Q 5 (.mov (.t 4)),
⟨some 6, .q (.mov (.t 0)), some (5, true), 0⟩,
⟨some 7, .q (.nilck (.t 6)), some (5, true), 0⟩,
⟨some 8, .q (.faddr 0 (.t 7)), some (5, true), 0⟩,
⟨some 9, .q (.load false 1 (.t 8)), some (5, true), 0⟩,
⟨some 10, .q (.bin .neq .ptr (.t 9) (.c (.one (dc (.nilp))))), some (5, true), 0⟩,
Q 11 (.pick (.t 5) (.t 10) (cb false)),
Q 2 (.mov (.t 11))]) (
.ret))
def a210 : AFunc := ⟨c210, [.tmp 2], false⟩
def c211 : ACode :=
.seq (
.region [Q 2 (.mov (ci 0))]) (
.seq (
.region [Q 6 (.mov (.t 0)),
Q 7 (.nilck (.t 6)),
Q 8 (.faddr 0 (.t 7)),
Q 9 (.load false 1 (.t 8)),
E 10 (.callf 199 [(.t 9), (ci 1)]),
Q 5 (.mov (.t 10)),
Q 11 (.extract 0 (.t 5)),
Q 12 (.extract 1 (.t 5)),
Q 3 (.mov (.t 11)),
Q 4 (.mov (.t 12))]) (
.seq (
.draw [⟨0, ⟨some 13, .q (.mov (.t 3)), none, 0⟩⟩,
⟨1, ⟨some 14, .q (.sidx (.t 13) (ci 1)), none, 1⟩⟩,
⟨2, ⟨some 15, .q (.mov (.t 3)), none, 0⟩⟩,
⟨3, ⟨some 16, .q (.sidx (.t 15) (ci 2)), none, 4⟩⟩,
⟨4, ⟨some 17, .e (.callf 280 [(.t 14), (.t 16)]), none, 15⟩⟩,
⟨5, ⟨some 2, .q (.mov (.t 17)), none, 31⟩⟩]) (
.ret)))
def a211 : AFunc := ⟨c211, [.tmp 2], false⟩
def c212 : ACode :=
.seq (
.region [Q 4 (.mov (cs [])),
Q 5 (.mov (ci 0))]) (
.seq (
.region [Q 10 (.mov (.t 0)),
Q 11 (.mov (.t 1)),
E 12 (.callf 252 [(.t 10), (.t 11)]),
Q 9 (.mov (.t 12)),
Q 13 (.extract 0 (.t 9)),
Q 14 (.extract 1 (.t 9)),
Q 15 (.extract 2 (.t 9)),
Q 6 (.mov (.t 13)),
Q 7 (.mov (.t 14)),
Q 8 (.mov (.t 15))]) (
.seq (
.region [Q 16 (.mov (.t 7)),
Q 17 (.mov (.t 8)),
Q 4 (.mov (.t 16)),
Q 5 (.mov (.t 17))]) (
.ret)))
def a212 : AFunc := ⟨c212, [.tmp 4, .tmp 5], false⟩
def c213 : ACode :=
.seq (
.region [Q 1 (.mov (ci 0))]) (
.seq (
.region [Q 2 (.load false 1 (.t 0)),
E 3 (.callf 160 [(.t 2)]),
Q 4 (.bin .rem .scalar (.t 3) (.c (.one (dc (.int .u64 65536))))),
Q 5 (.conv (.int .i64) (.t 4)),
Q 1 (.mov (.t 5))]) (
.ret))
def a213 : AFunc := ⟨c213, [.tmp 1], false⟩
def c214 : ACode :=
.seq (
.region [M 1 (.box 63 2 (.t 0)),
Q 2 (.mov (cs []))]) (
.seq (
.draw [⟨0, ⟨some 6, .q (.faddr 0 (.t 1)), none, 0⟩⟩,
⟨1, ⟨some 7, .q (.load false 1 (.t 6)), none, 1⟩⟩,
⟨2, ⟨some 8, .q (.conv (.int .u64) (.t 7)), none, 3⟩⟩,
⟨4, ⟨some 10, .q (.faddr 1 (.t 1)), none, 0⟩⟩,
⟨5, ⟨some 11, .q (.load false 1 (.t 10)), none, 16⟩⟩,
⟨6, ⟨some 12, .q (.len .sl (.t 11)), none, 48⟩⟩,
⟨7, ⟨some 13, .q (.conv (.int .u64) (.t 12)), none, 112⟩⟩,
⟨3, ⟨some 9, .e (.callf 110 [(.t 8)]), none, 7⟩⟩,
⟨8, ⟨some 14, .e (.callf 110 [(.t 13)]), none, 255⟩⟩,
⟨9, ⟨some 15, .q (.bin .add .scalar (.t 9) (.t 14)), none, 511⟩⟩,
⟨10, ⟨some 3, .q (.mov (.t 15)), none, 1023⟩⟩]) (
.seq (
.seq (
.region [Q 16 (.faddr 1 (.t 1)),
Q 17 (.load false 1 (.t 16)),
Q 18 (.len .sl (.t 17)),
Q 19 (.mov (ci 0))]) (
.block 0 (
.loop (
.seq (
.region [Q 20 (.bin .lss .scalar (.t 19) (.t 18))]) (
.seq (
.cond (.t 20) (
.skip) (
.exit 0)) (
.seq (
.block 1 (
.seq (
.region [Q 21 (.iaddr 1 none (.t 17) (.t 19)),
Q 22 (.load false 1 (.t 21)),
Q 5 (.mov (.t 22))]) (
.region [Q 23 (.mov (.t 3)),
Q 24 (.mov (.t 5)),
Q 25 (.conv (.int .u64) (.t 24)),
E 26 (.callf 110 [(.t 25)]),
Q 27 (.bin .add .scalar (.t 23) (.t 26)),
Q 3 (.mov (.t 27))]))) (
.region [Q 28 (.bin .add .scalar (.t 19) (ci 1)),
Q 19 (.mov (.t 28))]))))))) (
.seq (
.region [Q 29 (.mov (.t 3)),
Q 2 (.mov (.t 29))]) (
.ret))))
def a214 : AFunc := ⟨c214, [.tmp 2], false⟩
def c215 : ACode :=
.seq (
.region [M 2 (.box 26 2 (.t 0)),
M 3 (.box 26 2 (.t 1)),
M 4 (.alloc 26 2 [dc (.int .i64 0), dc (.int .i64 0)]),
Q 5 (.mov (cb false))]) (
.seq (
.region [Q 7 (.faddr 0 (.t 2)),
Q 8 (.load false 1 (.t 7)),
Q 9 (.faddr 0 (.t 3)),
Q 10 (.load false 1 (.t 9)),
Q 11 (.mnmx true (.t 8) (.t 10)),
Q 12 (.faddr 1 (.t 2)),
Q 13 (.load false 1 (.t 12)),
Q 14 (.faddr 1 (.t 3)),
Q 15 (.load false 1 (.t 14)),
Q 16 (.mnmx false (.t 13) (.t 15)),
Q 17 (.build [dc (.int .i64 0), dc (.int .i64 0)] [(0, 1, (.t 11)), (1, 1, (.t 16))]),
M 6 (.alloc 26 2 [dc (.int .i64 0), dc (.int .i64 0)]),
⟨none, .e (.store 2 (.t 6) (.t 17)), none, 0⟩]) (
.seq (
.seq (
.region [Q 18 (.load true 2 (.t 2)),
E 19 (.callf 45 [(.t 18)]),
Q 20 (.un .not (.t 19)),
Q 21 (.mov (.t 20)),
⟨some 22, .q (.load true 2 (.t 3)), some (21, false), 0⟩,
⟨some 23, .e (.callf 45 [(.t 22)]), some (21, false), 0⟩,
⟨some 24, .q (.un .not (.t 23)), some (21, false), 0⟩,
Q 25 (.pick (.t 21) (cb true) (.t 24)),
Q 26 (.mov (.t 25)),
⟨some 27, .q (.load true 2 (.t 6)), some (26, false), 0⟩,
⟨some 28, .e (.callf 45 [(.t 27)]), some (26, false), 0⟩,
⟨some 29, .q (.un .not (.t 28)), some (26, false), 0⟩,
Q 30 (.pick (.t 26) (cb true) (.t 29))]) (
.cond (.t 30) (
.seq (
.region [Q 31 (.build [dc (.int .i64 0), dc (.int .i64 0)] []),
⟨none, .e (.store 2 (.t 4) (.t 31)), none, 0⟩,
Q 5 (.mov (cb false))]) (
.ret)) (
.skip))) (
.seq (
.region [Q 32 (.load true 2 (.t 6)),
⟨none, .e (.store 2 (.t 4) (.t 32)), none, 0⟩,
Q 5 (.mov (cb true))]) (
.ret))))
def a215 : AFunc := ⟨c215, [.cell 4 true 2, .tmp 5], true⟩
def c216 : ACode :=
.seq (
.region [Q 2 (.mov (cb false))]) (
.seq (
.seq (
.region [Q 7 (.mov (.t 0)),
M 8 (.range true (.t 7))]) (
.block 0 (
.loop (
.seq (
.region [E 9 (.next true (.t 8)),
Q 10 (.extract 0 (.t 9))]) (
.seq (
.cond (.t 10) (
.skip) (
.exit 0)) (
.block 1 (
.seq (
.region [Q 11 (.extract 1 (.t 9)),
Q 12 (.extract 2 (.t 9)),
Q 3 (.mov (.t 11)),
Q 4 (.mov (.t 12))]) (
.seq (
.region [Q 13 (.mov (.t 4)),
Q 14 (.bin .geq .scalar (.t 13) (.c (.one (dc (.int .i32 48))))),
Q 15 (.mov (.t 14)),
⟨some 16, .q (.mov (.t 4)), some (15, true), 0⟩,
⟨some 17, .q (.bin .leq .scalar (.t 16) (.c (.one (dc (.int .i32 57))))), some (15, true), 0⟩,
Q 18 (.pick (.t 15) (.t 17) (cb false)),
Q 5 (.mov (.t 18))]) (
.seq (
.region [Q 19 (.mov (.t 4)),
Q 20 (.bin .geq .scalar (.t 19) (.c (.one (dc (.int .i32 97))))),
Q 21 (.mov (.t 20)),
⟨some 22, .q (.mov (.t 4)), some (21, true), 0⟩,
⟨some 23, .q (.bin .leq .scalar (.t 22) (.c (.one (dc (.int .i32 122))))), some (21, true), 0⟩,
Q 24 (.pick (.t 21) (.t 23) (cb false)),
Q 25 (.mov (.t 24)),
⟨some 26, .q (.mov (.t 4)), some (25, false), 0⟩,
⟨some 27, .q (.bin .eql .scalar (.t 26) (.c (.one (dc (.int .i32 95))))), some (25, false), 0⟩,
Q 28 (.pick (.t 25) (cb true) (.t 27)),
Q 6 (.mov (.t 28))]) (
.seq (
.region [Q 29 (.mov (.t 6)),
Q 30 (.un .not (.t 29)),
Q 31 (.mov (.t 30)),
⟨some 32, .q (.mov (.t 5)), some (31, true), 0⟩,
⟨some 33, .q (.un .not (.t 32)), some (31, true), 0⟩,
⟨some 34, .q (.mov (.t 33)), some (31, true), 0⟩,
⟨some 35, .q (.mov (.t 3)), some (34, false), 0⟩,
⟨some 36, .q (.bin .eql .scalar (.t 35) (ci 0)), some (34, false), 0⟩,
⟨some 37, .q (.pick (.t 34) (cb true) (.t 36)), some (31, true), 0⟩,
Q 38 (.pick (.t 31) (.t 37) (cb false))]) (
.cond (.t 38) (
.seq (
.region [Q 2 (.mov (cb false))]) (
.ret)) (
.skip)))))))))))) (
.seq (
.region [Q 39 (.mov (.t 0)),
Q 40 (.bin .neq .scalar (.t 39) (cs [])),
Q 41 (.mov (.t 40)),
⟨some 42, .q (.mov (.t 0)), some (41, true), 0⟩,
⟨some 43, .q (.len .str (.t 42)), some (41, true), 0⟩,
⟨some 44, .q (.bin .leq .scalar (.t 43) (ci 32)), some (41, true), 0⟩,
Q 45 (.pick (.t 41) (.t 44) (cb false)),
Q 2 (.mov (.t 45))]) (
.ret)))
def a216 : AFunc := ⟨c216, [.tmp 2], true⟩
def c217 : ACode :=
.seq (
.region [M 2 (.box 185 3 (.t 0)),
M 3 (.box 128 4 (.t 1)),
Q 4 (.mov (cb false))]) (
.seq (
.seq (
.region [Q 5 (.faddr 0 (.t 3)),
Q 6 (.load false 1 (.t 5)),
Q 7 (.bin .eql .scalar (.t 6) (ci 0))]) (
.cond (.t 7) (
.seq (
.region [Q 8 (.faddr 2 (.t 2)),
Q 9 (.load false 1 (.t 8)),
Q 10 (.un .not (.t 9)),
Q 11 (.mov (.t 10)),
⟨some 12, .q (.load true 4 (.t 3)), some (11, true), 0⟩,
⟨some 13, .e (.callf 158 [(.t 12)]), some (11, true), 0⟩,
Q 14 (.pick (.t 11) (.t 13) (cb false)),
Q 4 (.mov (.t 14))]) (
.ret)) (
.skip))) (
.seq (
.region [Q 15 (.faddr 0 (.t 3)),
Q 16 (.load false 1 (.t 15)),
Q 17 (.faddr 1 (.t 2)),
Q 18 (.load false 1 (.t 17)),
Q 19 (.bin .eql .scalar (.t 16) (.t 18)),
Q 20 (.mov (.t 19)),
⟨some 21, .q (.load true 4 (.t 3)), some (20, true), 0⟩,
⟨some 22, .e (.callf 158 [(.t 21)]), some (20, true), 0⟩,
Q 23 (.pick (.t 20) (.t 22) (cb false)),
Q 4 (.mov (.t 23))]) (
.ret)))
def a217 : AFunc := ⟨c217, [.tmp 4], true⟩
def c218 : ACode :=
.seq (
.region [Q 4 (.mov (cb false))]) (
.seq (
.seq (
.region [Q 7 (.mov (.t 0)),
Q 8 (.len .sl (.t 7)),
Q 9 (.mov (ci 0))]) (
.block 0 (
.loop (
.seq (
.region [Q 10 (.bin .lss .scalar (.t 9) (.t 8))]) (
.seq (
.cond (.t 10) (
.skip) (
.exit 0)) (
.seq (
.block 1 (
.seq (
.region [Q 11 (.iaddr 4 none (.t 7) (.t 9)),
Q 12 (.load true 4 (.t 11)),
M 6 (.alloc 128 4 [dc (.int .i64 0), dc (.int .i64 0), dc (.int .u64 0), dc (.str [])]),
⟨none, .e (.store 4 (.t 6) (.t 12)), none, 0⟩]) (
.seq (
.region [Q 13 (.load true 4 (.t 6)),
E 14 (.callf 158 [(.t 13)]),
Q 15 (.un .not (.t 14))]) (
.cond (.t 15) (
.seq (
.region [Q 4 (.mov (cb false))]) (
.ret)) (
.skip))))) (
.region [Q 16 (.bin .add .scalar (.t 9) (ci 1)),
Q 9 (.mov (.t 16))]))))))) (
.seq (
.region [Q 17 (.mov (.t 0)),
Q 18 (.len .sl (.t 17)),
Q 19 (.bin .gtr .scalar (.t 18) (ci 0)),
Q 20 (.mov (.t 19)),
⟨some 21, .q (.mov (.t 0)), some (20, true), 0⟩,
⟨some 22, .q (.len .sl (.t 21)), some (20, true), 0⟩,
⟨some 23, .q (.mov (.t 1)), some (20, true), 0⟩,
⟨some 24, .q (.bin .leq .scalar (.t 22) (.t 23)), some (20, true), 0⟩,
Q 25 (.pick (.t 20) (.t 24) (cb false)),
Q 4 (.mov (.t 25))]) (
.ret)))
def a218 : AFunc := ⟨c218, [.tmp 4], true⟩
def c219 : ACode :=
.seq (
.region [M 1 (.box 26 2 (.t 0)),
Q 2 (.mov (cb false))]) (
.seq (
.region [Q 3 (.faddr 0 (.t 1)),
Q 4 (.load false 1 (.t 3)),
Q 5 (.bin .geq .scalar (.t 4) (ci 0)),
Q 6 (.mov (.t 5)),
⟨some 7, .q (.faddr 0 (.t 1)), some (6, true), 0⟩,
⟨some 8, .q (.load false 1 (.t 7)), some (6, true), 0⟩,
⟨some 9, .q (.faddr 1 (.t 1)), some (6, true), 0⟩,
⟨some 10, .q (.load false 1 (.t 9)), some (6, true), 0⟩,
⟨some 11, .q (.bin .lss .scalar (.t 8) (.t 10)), some (6, true), 0⟩,
Q 12 (.pick (.t 6) (.t 11) (cb false)),
Q 13 (.mov (.t 12)),
⟨some 14, .q (.faddr 1 (.t 1)), some (13, true), 0⟩,
⟨some 15, .q (.load false 1 (.t 14)), some (13, true), 0⟩,
⟨some 16, .q (.bin .leq .scalar (.t 15) (ci 1099511627776)), some (13, true), 0⟩,
Q 17 (.pick (.t 13) (.t 16) (cb false)),
Q 2 (.mov (.t 17))]) (
.ret))
def a219 : AFunc := ⟨c219, [.tmp 2], true⟩
def c220 : ACode :=
.seq (
.region [M 2 (.box 36 3 (.t 0)),
M 3 (.box 36 3 (.t 1)),
Q 4 (.mov (cb false))]) (
.seq (
.seq (
.region [Q 6 (.faddr 0 (.t 2)),
Q 7 (.load false 1 (.t 6)),
Q 8 (.faddr 0 (.t 3)),
Q 9 (.load false 1 (.t 8)),
Q 10 (.bin .neq .scalar (.t 7) (.t 9)),
Q 11 (.mov (.t 10)),
⟨some 12, .q (.faddr 2 (.t 2)), some (11, false), 0⟩,
⟨some 13, .q (.load false 1 (.t 12)), some (11, false), 0⟩,
⟨some 14, .q (.faddr 2 (.t 3)), some (11, false), 0⟩,
⟨some 15, .q (.load false 1 (.t 14)), some (11, false), 0⟩,
⟨some 16, .q (.bin .neq .scalar (.t 13) (.t 15)), some (11, false), 0⟩,
Q 17 (.pick (.t 11) (cb true) (.t 16)),
Q 18 (.mov (.t 17)),
⟨some 19, .q (.faddr 1 (.t 2)), some (18, false), 0⟩,
⟨some 20, .q (.load false 1 (.t 19)), some (18, false), 0⟩,
⟨some 21, .q (.len .sl (.t 20)), some (18, false), 0⟩,
⟨some 22, .q (.faddr 1 (.t 3)), some (18, false), 0⟩,
⟨some 23, .q (.load false 1 (.t 22)), some (18, false), 0⟩,
⟨some 24, .q (.len .sl (.t 23)), some (18, false), 0⟩,
⟨some 25, .q (.bin .neq .scalar (.t 21) (.t 24)), some (18, false), 0⟩,
Q 26 (.pick (.t 18) (cb true) (.t 25))]) (
.cond (.t 26) (
.seq (
.region [Q 4 (.mov (cb false))]) (
.ret)) (
.skip))) (
.seq (
.seq (
.region [Q 27 (.faddr 1 (.t 2)),
Q 28 (.load false 1 (.t 27)),
Q 29 (.len .sl (.t 28)),
Q 30 (.mov (ci 0))]) (
.block 0 (
.loop (
.seq (
.region [Q 31 (.bin .lss .scalar (.t 30) (.t 29))]) (
.seq (
.cond (.t 31) (
.skip) (
.exit 0)) (
.seq (
.block 1 (
.seq (
.region [Q 32 (.mov (.t 30)),
Q 5 (.mov (.t 32))]) (
.seq (
.draw [⟨0, ⟨some 33, .q (.faddr 1 (.t 2)), none, 0⟩⟩,
⟨1, ⟨some 34, .q (.load false 1 (.t 33)), none, 1⟩⟩,
⟨2, ⟨some 35, .q (.mov (.t 5)), none, 0⟩⟩,
⟨3, ⟨some 36, .q (.iaddr 3 none (.t 34) (.t 35)), none, 7⟩⟩,
⟨4, ⟨some 37, .q (.load true 3 (.t 36)), none, 15⟩⟩,
⟨5, ⟨some 38, .q (.faddr 1 (.t 3)), none, 0⟩⟩,
⟨6, ⟨some 39, .q (.load false 1 (.t 38)), none, 32⟩⟩,
⟨7, ⟨some 40, .q (.mov (.t 5)), none, 0⟩⟩,
⟨8, ⟨some 41, .q (.iaddr 3 none (.t 39) (.t 40)), none, 224⟩⟩,
⟨9, ⟨some 42, .q (.load true 3 (.t 41)), none, 480⟩⟩,
⟨10, ⟨some 43, .q (.bin .neq (.agg [.str, .int, .bool]) (.t 37) (.t 42)), none, 1023⟩⟩]) (
.cond (.t 43) (
.seq (
.region [Q 4 (.mov (cb false))]) (
.ret)) (
.skip))))) (
.region [Q 44 (.bin .add .scalar (.t 30) (ci 1)),
Q 30 (.mov (.t 44))]))))))) (
.seq (
.region [Q 4 (.mov (cb true))]) (
.ret))))
def a220 : AFunc := ⟨c220, [.tmp 4], true⟩
def c221 : ACode :=
.seq (
.region [Q 2 (.mov (cb false))]) (
.seq (
.seq (
.region [Q 5 (.mov (.t 0)),
Q 6 (.len .sl (.t 5)),
Q 7 (.mov (ci 0))]) (
.block 0 (
.loop (
.seq (
.region [Q 8 (.bin .lss .scalar (.t 7) (.t 6))]) (
.seq (
.cond (.t 8) (
.skip) (
.exit 0)) (
.seq (
.block 1 (
.seq (
.region [Q 9 (.iaddr 4 none (.t 5) (.t 7)),
Q 10 (.load true 4 (.t 9)),
M 4 (.alloc 128 4 [dc (.int .i64 0), dc (.int .i64 0), dc (.int .u64 0), dc (.str [])]),
⟨none, .e (.store 4 (.t 4) (.t 10)), none, 0⟩]) (
.seq (
.region [Q 11 (.load true 4 (.t 4)),
E 12 (.callf 158 [(.t 11)]),
Q 13 (.un .not (.t 12))]) (
.cond (.t 13) (
.seq (
.region [Q 2 (.mov (cb false))]) (
.ret)) (
.skip))))) (
.region [Q 14 (.bin .add .scalar (.t 7) (ci 1)),
Q 7 (.mov (.t 14))]))))))) (
.seq (
.region [Q 15 (.mov (.t 0)),
Q 16 (.len .sl (.t 15)),
Q 17 (.bin .leq .scalar (.t 16) (ci 8)),
Q 2 (.mov (.t 17))]) (
.ret)))
def a221 : AFunc := ⟨c221, [.tmp 2], true⟩
def c222 : ACode :=
.seq (
.region [M 1 (.box 128 4 (.t 0)),
Q 2 (.mov (cs []))]) (
.seq (
.region [Q 4 (.mkfn (.func 281) 281 [] [(.t 1)]),
Q 3 (.mov (.t 4))]) (
.seq (
.seq (
.region [Q 5 (.faddr 0 (.t 1)),
Q 6 (.load false 1 (.t 5))]) (
.block 0 (
.seq (
.region [Q 8 (.bin .eql .scalar (.t 6) (ci 1)),
Q 7 (.mov (.t 8))]) (
.cond (.t 7) (
.seq (
.region [Q 9 (.mov (.t 3)),
Q 10 (.faddr 1 (.t 1)),
Q 11 (.load false 1 (.t 10)),
Q 12 (.conv (.int .u8) (.t 11)),
M 13 (.bslice 5 1 1 [dc (.int .u8 0)] [(0, 1, (.t 12))]),
Q 14 (.conv .b2s (.t 13)),
E 15 (.callv (.t 9) [(.t 14)]),
Q 2 (.mov (.t 15))]) (
.ret)) (
.seq (
.region [Q 17 (.bin .eql .scalar (.t 6) (ci 2)),
Q 16 (.mov (.t 17))]) (
.cond (.t 16) (
.seq (
.region [Q 18 (.mov (.t 3)),
Q 19 (.faddr 1 (.t 1)),
Q 20 (.load false 1 (.t 19)),
Q 21 (.conv (.int .u64) (.t 20)),
Q 22 (.bin .xor .scalar (.t 21) (.c (.one (dc (.int .u64 9223372036854775808))))),
E 23 (.callf 282 [(.t 22)]),
E 24 (.callv (.t 18) [(.t 23)]),
Q 2 (.mov (.t 24))]) (
.ret)) (
.seq (
.region [Q 26 (.bin .eql .scalar (.t 6) (ci 3)),
Q 25 (.mov (.t 26))]) (
.cond (.t 25) (
.seq (
.region [Q 27 (.mov (.t 3)),
Q 28 (.faddr 2 (.t 1)),
Q 29 (.load false 1 (.t 28)),
E 30 (.callf 283 [(.t 29)]),
E 31 (.callf 282 [(.t 30)]),
E 32 (.callv (.t 27) [(.t 31)]),
Q 2 (.mov (.t 32))]) (
.ret)) (
.seq (
.seq (
.region [Q 34 (.bin .eql .scalar (.t 6) (ci 4)),
Q 33 (.mov (.t 34))]) (
.cond (.t 33) (
.skip) (
.region [Q 35 (.bin .eql .scalar (.t 6) (ci 5)),
Q 33 (.mov (.t 35))]))) (
.cond (.t 33) (
.seq (
.region [Q 36 (.mov (.t 3)),
Q 37 (.faddr 3 (.t 1)),
Q 38 (.load false 1 (.t 37)),
E 39 (.callf 284 [(.t 38)]),
E 40 (.callv (.t 36) [(.t 39)]),
Q 2 (.mov (.t 40))]) (
.ret)) (
.skip))))))))))) (
.seq (
.region [Q 41 (.mov (.t 3)),
E 42 (.callv (.t 41) [(cs [])]),
Q 2 (.mov (.t 42))]) (
.ret))))
def a222 : AFunc := ⟨c222, [.tmp 2], true⟩
def c223 : ACode :=
.seq (
.region [Q 2 (.mov (.c (.one (dc (.sl [] true)))))]) (
.seq (
.region [Q 3 (.mov (.c (.one (dc (.sl [] true)))))]) (
.seq (
.seq (
.region [Q 6 (.mov (.t 0)),
Q 7 (.len .sl (.t 6)),
Q 8 (.mov (ci 0))]) (
.block 0 (
.loop (
.seq (
.region [Q 9 (.bin .lss .scalar (.t 8) (.t 7))]) (
.seq (
.cond (.t 9) (
.skip) (
.exit 0)) (
.seq (
.block 1 (
.seq (
.region [Q 10 (.iaddr 2 none (.t 6) (.t 8)),
Q 11 (.load true 2 (.t 10)),
M 5 (.alloc 26 2 [dc (.int .i64 0), dc (.int .i64 0)]),
⟨none, .e (.store 2 (.t 5) (.t 11)), none, 0⟩]) (
.seq (
.region [Q 12 (.load true 2 (.t 5)),
E 13 (.callf 45 [(.t 12)])]) (
.cond (.t 13) (
.region [Q 14 (.mov (.t 3)),
Q 15 (.load true 2 (.t 5)),
M 16 (.bslice 26 2 1 [dc (.int .i64 0), dc (.int .i64 0)] [(0, 2, (.t 15))]),
E 17 (.append 26 2 16 (.t 14) (.t 16)),
Q 3 (.mov (.t 17))]) (
.skip))))) (
.region [Q 18 (.bin .add .scalar (.t 8) (ci 1)),
Q 8 (.mov (.t 18))]))))))) (
.seq (
.region [Q 19 (.mov (.t 3)),
Q 2 (.mov (.t 19))]) (
.ret))))
def a223 : AFunc := ⟨c223, [.tmp 2], true⟩
def c224 : ACode :=
.seq (
.region [M 2 (.box 98 3 (.t 0)),
Q 3 (.mov (cb false))]) (
.seq (
.seq (
.region [Q 6 (.load false 1 (.t 1)),
Q 7 (.len .sl (.t 6)),
Q 8 (.mov (ci 0))]) (
.block 0 (
.loop (
.seq (
.region [Q 9 (.bin .lss .scalar (.t 8) (.t 7))]) (
.seq (
.cond (.t 9) (
.skip) (
.exit 0)) (
.seq (
.block 1 (
.seq (
.region [Q 10 (.iaddr 3 none (.t 6) (.t 8)),
Q 11 (.load true 3 (.t 10)),
M 5 (.alloc 98 3 [dc (.int .i64 0), dc (.int .i64 0), dc (.sl [] true)]),
⟨none, .e (.store 3 (.t 5) (.t 11)), none, 0⟩]) (
.seq (
.region [Q 12 (.faddr 0 (.t 2)),
Q 13 (.load true 2 (.t 12)),
Q 14 (.faddr 0 (.t 5)),
Q 15 (.load true 2 (.t 14)),
Q 16 (.bin .eql (.agg [.int, .int]) (.t 13) (.t 15)),
Q 17 (.mov (.t 16)),
⟨some 18, .q (.faddr 2 (.t 2)), some (17, true), 0⟩,
⟨some 19, .q (.load false 1 (.t 18)), some (17, true), 0⟩,
⟨some 20, .q (.faddr 2 (.t 5)), some (17, true), 0⟩,
⟨some 21, .q (.load false 1 (.t 20)), some (17, true), 0⟩,
⟨some 22, .e (.callf 146 [(.t 19), (.t 21)]), some (17, true), 0⟩,
Q 23 (.pick (.t 17) (.t 22) (cb false))]) (
.cond (.t 23) (
.seq (
.region [Q 3 (.mov (cb true))]) (
.ret)) (
.skip))))) (
.region [Q 24 (.bin .add .scalar (.t 8) (ci 1)),
Q 8 (.mov (.t 24))]))))))) (
.seq (
.region [Q 3 (.mov (cb false))]) (
.ret)))
def a224 : AFunc := ⟨c224, [.tmp 3], true⟩
def c225 : ACode :=
.seq (
.region [Q 2 (.mov (.c (.one (dc (.int .u64 0)))))]) (
.seq (
.block 0 (
.seq (
.region [Q 4 (.mov (.t 0)),
E 5 (.callf 285 [(.t 4)]),
Q 3 (.mov (.t 5))]) (
.cond (.t 3) (
.seq (
.region [Q 2 (.mov (.c (.one (dc (.int .u64 9221120237041090560)))))]) (
.ret)) (
.seq (
.region [Q 7 (.mov (.t 0)),
Q 8 (.bin .eql .scalar (.t 7) (.c (.one (dc (.flt .f64 0))))),
Q 6 (.mov (.t 8))]) (
.cond (.t 6) (
.seq (
.region [Q 2 (.mov (.c (.one (dc (.int .u64 0)))))]) (
.ret)) (
.skip)))))) (
.seq (
.region [Q 9 (.mov (.t 0)),
Q 10 (.fbits (.t 9)),
Q 2 (.mov (.t 10))]) (
.ret)))
def a225 : AFunc := ⟨c225, [.tmp 2], true⟩
def c227 : ACode :=
.seq (
.region [Q 2 (.mov (cs []))]) (
.seq (
.region [Q 3 (.mov (.t 0)),
Q 4 (.conv (.int .u64) (.t 3)),
Q 5 (.bin .shl .scalar (.t 4) (.c (.one (dc (.int .u64 1))))),
Q 6 (.mov (.t 0)),
Q 7 (.bin .shr .scalar (.t 6) (.c (.one (dc (.int .u64 63))))),
Q 8 (.conv (.int .u64) (.t 7)),
Q 9 (.bin .xor .scalar (.t 5) (.t 8)),
E 10 (.callf 110 [(.t 9)]),
Q 2 (.mov (.t 10))]) (
.ret))
def a227 : AFunc := ⟨c227, [.tmp 2], true⟩
def c228 : ACode :=
.seq (
.region [M 2 (.box 186 1 (.t 0)),
M 4 (.alloc 126 1 [dc (.int .u64 0)])]) (
.seq (
.seq (
.region [Q 6 (.load false 1 (.t 2)),
Q 7 (.bin .eql .ptr (.t 6) (.c (.one (dc (.nilp))))),
Q 8 (.mov (.t 7)),
⟨some 9, .q (.load false 1 (.t 2)), some (8, false), 0⟩,
⟨some 10, .q (.nilck (.t 9)), some (8, false), 0⟩,
⟨some 11, .q (.faddr 2 (.t 10)), some (8, false), 0⟩,
⟨some 12, .q (.load false 1 (.t 11)), some (8, false), 0⟩,
⟨some 13, .q (.bin .neq .scalar (.t 12) (ci 0)), some (8, false), 0⟩,
Q 14 (.pick (.t 8) (cb true) (.t 13))]) (
.cond (.t 14) (
.seq (
.region [Q 15 (.load false 1 (.t 4)),
⟨none, .e (.store 1 (.t 4) (.t 15)), none, 0⟩]) (
.ret)) (
.skip))) (
.seq (
.region [Q 16 (.load false 1 (.t 2)),
Q 17 (.nilck (.t 16)),
Q 18 (.faddr 1 (.t 17)),
Q 19 (.load false 1 (.t 18)),
M 5 (.alloc 3 1 [dc (.int .i64 0)]),
⟨none, .e (.store 1 (.t 5) (.t 19)), none, 0⟩]) (
.seq (
.region [Q 20 (.mkfn (.func 287) 287 [] [(.t 5), (.t 4), (.t 2)]),
⟨none, .defer (.t 20) [], none, 0⟩]) (
.seq (
.region [Q 21 (.mov (.t 1)),
E 22 (.callv (.t 21) []),
⟨none, .e (.store 1 (.t 4) (.t 22)), none, 0⟩]) (
.ret)))))
def a228 : AFunc := ⟨c228, [.cell 4 false 1], false⟩
def c229 : ACode :=
.seq (
.region [Q 2 (.mov (.c (.one (dc (.int .u64 0)))))]) (
.seq (
.region [Q 3 (.mov (.c (.one (dc (.int .u64 0)))))]) (
.seq (
.seq (
.region [Q 6 (.mov (ci 0))]) (
.block 0 (
.loop (
.seq (
.region [Q 7 (.bin .lss .scalar (.t 6) (ci 10))]) (
.seq (
.cond (.t 7) (
.skip) (
.exit 0)) (
.seq (
.block 1 (
.seq (
.region [Q 8 (.mov (.t 6)),
Q 4 (.mov (.t 8))]) (
.seq (
.region [Q 9 (.mov (.t 0)),
E 10 (.callf 288 [(.t 9)]),
Q 5 (.mov (.t 10))]) (
.seq (
.seq (
.region [Q 11 (.mov (.t 5)),
Q 12 (.bin .eql .scalar (.t 11) (.c (.one (dc (.int .u8 0))))),
Q 13 (.mov (.t 12)),
⟨some 14, .q (.mov (.t 4)), some (13, true), 0⟩,
⟨some 15, .q (.bin .gtr .scalar (.t 14) (ci 0)), some (13, true), 0⟩,
Q 16 (.pick (.t 13) (.t 15) (cb false)),
Q 17 (.mov (.t 16)),
⟨some 18, .q (.mov (.t 4)), some (17, false), 0⟩,
⟨some 19, .q (.bin .eql .scalar (.t 18) (ci 9)), some (17, false), 0⟩,
⟨some 20, .q (.mov (.t 19)), some (17, false), 0⟩,
⟨some 21, .q (.mov (.t 5)), some (20, true), 0⟩,
⟨some 22, .q (.bin .gtr .scalar (.t 21) (.c (.one (dc (.int .u8 1))))), some (20, true), 0⟩,
⟨some 23, .q (.pick (.t 20) (.t 22) (cb false)), some (17, false), 0⟩,
Q 24 (.pick (.t 17) (cb true) (.t 23))]) (
.cond (.t 24) (
.region [Q 25 (.build [dc (.int .i64 0)] [(0, 1, (ci 7))]),
Q 26 (.mkif 317 (.t 25)),
⟨none, .e (.panic (.t 26)), none, 0⟩]) (
.skip))) (
.seq (
.region [Q 27 (.mov (.t 3)),
Q 28 (.mov (.t 5)),
Q 29 (.bin .rem .scalar (.t 28) (.c (.one (dc (.int .u8 128))))),
Q 30 (.conv (.int .u64) (.t 29)),
Q 31 (.mov (.t 4)),
Q 32 (.bin .mul .scalar (ci 7) (.t 31)),
Q 33 (.bin .shl .scalar (.t 30) (.t 32)),
Q 34 (.bin .or .scalar (.t 27) (.t 33)),
Q 3 (.mov (.t 34))]) (
.seq (
.region [Q 35 (.mov (.t 5)),
Q 36 (.bin .lss .scalar (.t 35) (.c (.one (dc (.int .u8 128)))))]) (
.cond (.t 36) (
.exit 0) (
.skip)))))))) (
.region [Q 37 (.bin .add .scalar (.t 6) (ci 1)),
Q 6 (.mov (.t 37))]))))))) (
.seq (
.region [Q 38 (.mov (.t 3)),
Q 2 (.mov (.t 38))]) (
.ret))))
def a229 : AFunc := ⟨c229, [.tmp 2], false⟩
def c230 : ACode :=
.seq (
.region [M 2 (.box 186 1 (.t 0)),
M 4 (.alloc 9 1 [dc (.str [])])]) (
.seq (
.seq (
.region [Q 6 (.load false 1 (.t 2)),
Q 7 (.bin .eql .ptr (.t 6) (.c (.one (dc (.nilp))))),
Q 8 (.mov (.t 7)),
⟨some 9, .q (.load false 1 (.t 2)), some (8, false), 0⟩,
⟨some 10, .q (.nilck (.t 9)), some (8, false), 0⟩,
⟨some 11, .q (.faddr 2 (.t 10)), some (8, false), 0⟩,
⟨some 12, .q (.load false 1 (.t 11)), some (8, false), 0⟩,
⟨some 13, .q (.bin .neq .scalar (.t 12) (ci 0)), some (8, false), 0⟩,
Q 14 (.pick (.t 8) (cb true) (.t 13))]) (
.cond (.t 14) (
.seq (
.region [Q 15 (.load false 1 (.t 4)),
⟨none, .e (.store 1 (.t 4) (.t 15)), none, 0⟩]) (
.ret)) (
.skip))) (
.seq (
.region [Q 16 (.load false 1 (.t 2)),
Q 17 (.nilck (.t 16)),
Q 18 (.faddr 1 (.t 17)),
Q 19 (.load false 1 (.t 18)),
M 5 (.alloc 3 1 [dc (.int .i64 0)]),
⟨none, .e (.store 1 (.t 5) (.t 19)), none, 0⟩]) (
.seq (
.region [Q 20 (.mkfn (.func 289) 289 [] [(.t 5), (.t 4), (.t 2)]),
⟨none, .defer (.t 20) [], none, 0⟩]) (
.seq (
.region [Q 21 (.mov (.t 1)),
E 22 (.callv (.t 21) []),
⟨none, .e (.store 1 (.t 4) (.t 22)), none, 0⟩]) (
.ret)))))
def a230 : AFunc := ⟨c230, [.cell 4 false 1], false⟩
def c231 : ACode :=
.seq (
.region [Q 1 (.mov (cs []))]) (
.seq (
.region [Q 2 (.load false 1 (.t 0)),
E 3 (.callf 232 [(.t 2), (.c (.one (dc (.int .u64 1000000))))]),
Q 1 (.mov (.t 3))]) (
.ret))
def a231 : AFunc := ⟨c231, [.tmp 1], false⟩
def c232 : ACode :=
.seq (
.region [Q 4 (.mov (cs []))]) (
.seq (
.region [Q 6 (.mov (.t 0)),
E 7 (.callf 229 [(.t 6)]),
Q 5 (.mov (.t 7))]) (
.seq (
.block 0 (
.seq (
.region [Q 9 (.mov (.t 5)),
Q 10 (.mov (.t 1)),
Q 11 (.bin .gtr .scalar (.t 9) (.t 10)),
Q 8 (.mov (.t 11))]) (
.cond (.t 8) (
.region [Q 12 (.build [dc (.int .i64 0)] [(0, 1, (ci 19))]),
Q 13 (.mkif 317 (.t 12)),
⟨none, .e (.panic (.t 13)), none, 0⟩]) (
.seq (
.draw [⟨0, ⟨some 15, .q (.mov (.t 5)), none, 0⟩⟩,
⟨1, ⟨some 16, .q (.mov (.t 0)), none, 0⟩⟩,
⟨2, ⟨some 17, .q (.nilck (.t 16)), none, 2⟩⟩,
⟨3, ⟨some 18, .q (.faddr 0 (.t 17)), none, 6⟩⟩,
⟨4, ⟨some 19, .q (.load false 1 (.t 18)), none, 14⟩⟩,
⟨5, ⟨some 20, .q (.len .str (.t 19)), none, 30⟩⟩,
⟨6, ⟨some 21, .q (.mov (.t 0)), none, 0⟩⟩,
⟨7, ⟨some 22, .q (.nilck (.t 21)), none, 64⟩⟩,
⟨8, ⟨some 23, .q (.faddr 1 (.t 22)), none, 192⟩⟩,
⟨9, ⟨some 24, .q (.load false 1 (.t 23)), none, 448⟩⟩,
⟨10, ⟨some 25, .q (.bin .sub .scalar (.t 20) (.t 24)), none, 1022⟩⟩,
⟨11, ⟨some 26, .q (.conv (.int .u64) (.t 25)), none, 2046⟩⟩,
⟨12, ⟨some 27, .q (.bin .gtr .scalar (.t 15) (.t 26)), none, 4095⟩⟩,
⟨13, ⟨some 14, .q (.mov (.t 27)), none, 8191⟩⟩]) (
.cond (.t 14) (
.region [Q 28 (.build [dc (.int .i64 0)] [(0, 1, (ci 8))]),
Q 29 (.mkif 317 (.t 28)),
⟨none, .e (.panic (.t 29)), none, 0⟩]) (
.skip)))))) (
.seq (
.region [Q 30 (.mov (.t 0)),
Q 31 (.nilck (.t 30)),
Q 32 (.faddr 1 (.t 31)),
Q 33 (.load false 1 (.t 32)),
Q 34 (.mov (.t 5)),
Q 35 (.conv (.int .i64) (.t 34)),
Q 36 (.bin .add .scalar (.t 33) (.t 35)),
Q 37 (.nilck (.t 30)),
Q 38 (.faddr 1 (.t 37)),
⟨none, .e (.store 1 (.t 38) (.t 36)), none, 0⟩]) (
.seq (
.draw [⟨0, ⟨some 39, .q (.mov (.t 0)), none, 0⟩⟩,
⟨1, ⟨some 40, .q (.nilck (.t 39)), none, 1⟩⟩,
⟨2, ⟨some 41, .q (.faddr 0 (.t 40)), none, 3⟩⟩,
⟨3, ⟨some 42, .q (.load false 1 (.t 41)), none, 7⟩⟩,
⟨4, ⟨some 43, .q (.mov (.t 0)), none, 0⟩⟩,
⟨5, ⟨some 44, .q (.nilck (.t 43)), none, 16⟩⟩,
⟨6, ⟨some 45, .q (.faddr 1 (.t 44)), none, 48⟩⟩,
⟨7, ⟨some 46, .q (.load false 1 (.t 45)), none, 112⟩⟩,
⟨8, ⟨some 47, .q (.mov (.t 5)), none, 0⟩⟩,
⟨9, ⟨some 48, .q (.conv (.int .i64) (.t 47)), none, 256⟩⟩,
⟨10, ⟨some 49, .q (.bin .sub .scalar (.t 46) (.t 48)), none, 1008⟩⟩,
⟨11, ⟨some 50, .q (.mov (.t 0)), none, 0⟩⟩,
⟨12, ⟨some 51, .q (.nilck (.t 50)), none, 2048⟩⟩,
⟨13, ⟨some 52, .q (.faddr 1 (.t 51)), none, 6144⟩⟩,
⟨14, ⟨some 53, .q (.load false 1 (.t 52)), none, 14336⟩⟩,
⟨15, ⟨some 54, .q (.sslice (.t 42) (some (.t 49)) (some (.t 53))), none, 32767⟩⟩,
⟨16, ⟨some 4, .q (.mov (.t 54)), none, 65535⟩⟩]) (
.ret)))))
def a232 : AFunc := ⟨c232, [.tmp 4], false⟩
def c233 : ACode :=
.seq (
.region [M 2 (.box 186 1 (.t 0)),
M 4 (.alloc 71 1 [dc (.sl [] true)])]) (
.seq (
.seq (
.region [Q 6 (.load false 1 (.t 2)),
Q 7 (.bin .eql .ptr (.t 6) (.c (.one (dc (.nilp))))),
Q 8 (.mov (.t 7)),
⟨some 9, .q (.load false 1 (.t 2)), some (8, false), 0⟩,
⟨some 10, .q (.nilck (.t 9)), some (8, false), 0⟩,
⟨some 11, .q (.faddr 2 (.t 10)), some (8, false), 0⟩,
⟨some 12, .q (.load false 1 (.t 11)), some (8, false), 0⟩,
⟨some 13, .q (.bin .neq .scalar (.t 12) (ci 0)), some (8, false), 0⟩,
Q 14 (.pick (.t 8) (cb true) (.t 13))]) (
.cond (.t 14) (
.seq (
.region [Q 15 (.load false 1 (.t 4)),
⟨none, .e (.store 1 (.t 4) (.t 15)), none, 0⟩]) (
.ret)) (
.skip))) (
.seq (
.region [Q 16 (.load false 1 (.t 2)),
Q 17 (.nilck (.t 16)),
Q 18 (.faddr 1 (.t 17)),
Q 19 (.load false 1 (.t 18)),
M 5 (.alloc 3 1 [dc (.int .i64 0)]),
⟨none, .e (.store 1 (.t 5) (.t 19)), none, 0⟩]) (
.seq (
.region [Q 20 (.mkfn (.func 290) 290 [] [(.t 5), (.t 4), (.t 2)]),
⟨none, .defer (.t 20) [], none, 0⟩]) (
.seq (
.region [Q 21 (.mov (.t 1)),
E 22 (.callv (.t 21) []),
⟨none, .e (.store 1 (.t 4) (.t 22)), none, 0⟩]) (
.ret)))))
def a233 : AFunc := ⟨c233, [.cell 4 false 1], false⟩
def c234 : ACode :=
.seq (
.region [Q 2 (.mov (.c (.one (dc (.sl [] true)))))]) (
.seq (
.region [Q 5 (.mov (.t 0)),
E 6 (.callf 229 [(.t 5)]),
Q 3 (.mov (.t 6))]) (
.seq (
.seq (
.region [Q 7 (.mov (.t 3)),
Q 8 (.bin .gtr .scalar (.t 7) (.c (.one (dc (.int .u64 1000)))))]) (
.cond (.t 8) (
.region [Q 9 (.build [dc (.int .i64 0)] [(0, 1, (ci 19))]),
Q 10 (.mkif 317 (.t 9)),
⟨none, .e (.panic (.t 10)), none, 0⟩]) (
.skip))) (
.seq (
.region [Q 4 (.mov (.c (.one (dc (.sl [] true)))))]) (
.seq (
.seq (
.region [Q 11 (.mov (.t 3)),
Q 12 (.mov (.c (.one (dc (.int .u64 0)))))]) (
.block 0 (
.loop (
.seq (
.region [Q 13 (.bin .lss .scalar (.t 12) (.t 11))]) (
.seq (
.cond (.t 13) (
.skip) (
.exit 0)) (
.seq (
.block 1 (
.region [Q 14 (.mov (.t 4)),
Q 15 (.mov (.t 0)),
E 16 (.callf 291 [(.t 15)]),
M 17 (.bslice 128 4 1 [dc (.int .i64 0), dc (.int .i64 0), dc (.int .u64 0), dc (.str [])] [(0, 4, (.t 16))]),
E 18 (.append 128 4 40 (.t 14) (.t 17)),
Q 4 (.mov (.t 18))])) (
.region [Q 19 (.bin .add .scalar (.t 12) (.c (.one (dc (.int .u64 1))))),
Q 12 (.mov (.t 19))]))))))) (
.seq (
.region [Q 20 (.mov (.t 4)),
Q 2 (.mov (.t 20))]) (
.ret))))))
def a234 : AFunc := ⟨c234, [.tmp 2], false⟩
def c235 : ACode :=
.seq (
.region [M 2 (.alloc 128 4 [dc (.int .i64 0), dc (.int .i64 0), dc (.int .u64 0), dc (.str [])])]) (
.seq (
.region [Q 4 (.mov (.t 0)),
E 5 (.callf 292 [(.t 4), (ci 1)]),
Q 6 (.sidx (.t 5) (ci 0)),
Q 7 (.conv (.int .i64) (.t 6)),
Q 8 (.bin .sub .scalar (.t 7) (ci 1)),
Q 9 (.build [dc (.int .i64 0), dc (.int .i64 0), dc (.int .u64 0), dc (.str [])] [(0, 1, (.t 8))]),
M 3 (.alloc 128 4 [dc (.int .i64 0), dc (.int .i64 0), dc (.int .u64 0), dc (.str [])]),
⟨none, .e (.store 4 (.t 3) (.t 9)), none, 0⟩]) (
.seq (
.seq (
.region [Q 10 (.faddr 0 (.t 3)),
Q 11 (.load false 1 (.t 10))]) (
.block 0 (
.seq (
.region [Q 13 (.bin .eql .scalar (.t 11) (ci 1)),
Q 12 (.mov (.t 13))]) (
.cond (.t 12) (
.region [Q 14 (.mov (.t 0)),
E 15 (.callf 292 [(.t 14), (ci 1)]),
Q 16 (.sidx (.t 15) (ci 0)),
Q 17 (.conv (.int .i64) (.t 16)),
Q 18 (.faddr 1 (.t 3)),
⟨none, .e (.store 1 (.t 18) (.t 17)), none, 0⟩]) (
.seq (
.region [Q 20 (.bin .eql .scalar (.t 11) (ci 2)),
Q 19 (.mov (.t 20))]) (
.cond (.t 19) (
.region [Q 21 (.mov (.t 0)),
E 22 (.callf 293 [(.t 21)]),
Q 23 (.bin .xor .scalar (.t 22) (.c (.one (dc (.int .u64 9223372036854775808))))),
Q 24 (.conv (.int .i64) (.t 23)),
Q 25 (.faddr 1 (.t 3)),
⟨none, .e (.store 1 (.t 25) (.t 24)), none, 0⟩]) (
.seq (
.region [Q 27 (.bin .eql .scalar (.t 11) (ci 3)),
Q 26 (.mov (.t 27))]) (
.cond (.t 26) (
.region [Q 28 (.mov (.t 0)),
E 29 (.callf 293 [(.t 28)]),
E 30 (.callf 294 [(.t 29)]),
Q 31 (.faddr 2 (.t 3)),
⟨none, .e (.store 1 (.t 31) (.t 30)), none, 0⟩]) (
.seq (
.seq (
.region [Q 33 (.bin .eql .scalar (.t 11) (ci 4)),
Q 32 (.mov (.t 33))]) (
.cond (.t 32) (
.skip) (
.region [Q 34 (.bin .eql .scalar (.t 11) (ci 5)),
Q 32 (.mov (.t 34))]))) (
.cond (.t 32) (
.region [Q 35 (.mov (.t 0)),
E 36 (.callf 295 [(.t 35)]),
Q 37 (.faddr 3 (.t 3)),
⟨none, .e (.store 1 (.t 37) (.t 36)), none, 0⟩]) (
.skip))))))))))) (
.seq (
.region [Q 38 (.mov (.t 0)),
Q 39 (.mov (.t 0)),
Q 40 (.nilck (.t 39)),
Q 41 (.faddr 1 (.t 40)),
Q 42 (.load false 1 (.t 41)),
Q 43 (.mov (.t 42)),
⟨some 44, .q (.load true 4 (.t 3)), some (43, false), 0⟩,
⟨some 45, .e (.callf 158 [(.t 44)]), some (43, false), 0⟩,
⟨some 46, .q (.un .not (.t 45)), some (43, false), 0⟩,
Q 47 (.pick (.t 43) (cb true) (.t 46)),
Q 48 (.nilck (.t 38)),
Q 49 (.faddr 1 (.t 48)),
⟨none, .e (.store 1 (.t 49) (.t 47)), none, 0⟩]) (
.seq (
.region [Q 50 (.load true 4 (.t 3)),
⟨none, .e (.store 4 (.t 2) (.t 50)), none, 0⟩]) (
.ret)))))
def a235 : AFunc := ⟨c235, [.cell 2 true 4], false⟩
def c236 : ACode :=
.seq (
.region [Q 2 (.mov (.c (.one (dc (.int .u32 0)))))]) (
.seq (
.region [Q 3 (.mov (.t 0)),
E 4 (.callf 296 [(.c (.one (dc (.int .u32 0)))), (.t 3)]),
Q 2 (.mov (.t 4))]) (
.ret))
def a236 : AFunc := ⟨c236, [.tmp 2], true⟩
def c237 : ACode :=
.seq (
.region [Q 2 (.mov (cs []))]) (
.seq (
.region [Q 3 (.mov (.t 0)),
Q 4 (.conv (.int .u64) (.t 3)),
E 5 (.callf 110 [(.t 4)]),
Q 2 (.mov (.t 5))]) (
.ret))
def a237 : AFunc := ⟨c237, [.tmp 2], true⟩
end Go.Proofs.YtcdebohjjkffkaaGreat.ts
