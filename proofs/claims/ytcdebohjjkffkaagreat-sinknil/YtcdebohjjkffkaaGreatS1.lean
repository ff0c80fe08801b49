/- The functions' compact code, printed by program. -/
import Derived.Test.YtcdebohjjkffkaaGreatS0
namespace Go.Proofs.YtcdebohjjkffkaaGreat.ts
open Go Go.Rf
def c238 : ACode :=
.seq (
.region [M 1 (.box 116 8 (.t 0)),
Q 2 (.mov (cs []))]) (
.seq (
.seq (
.region [Q 3 (.faddr 0 (.t 1)),
Q 4 (.load false 1 (.t 3)),
Q 5 (.bin .eql .scalar (.t 4) (ci 3))]) (
.cond (.t 5) (
.seq (
.draw [⟨0, ⟨some 6, .q (.faddr 0 (.t 1)), none, 0⟩⟩,
⟨1, ⟨some 7, .q (.load false 1 (.t 6)), none, 1⟩⟩,
⟨3, ⟨some 9, .q (.faddr 5 (.t 1)), none, 0⟩⟩,
⟨4, ⟨some 10, .q (.load true 3 (.t 9)), none, 8⟩⟩,
⟨2, ⟨some 8, .e (.callf 237 [(.t 7)]), none, 3⟩⟩,
⟨5, ⟨some 11, .e (.callf 112 [(.t 10)]), none, 31⟩⟩,
⟨6, ⟨some 12, .e (.callf 111 [(.t 11)]), none, 63⟩⟩,
⟨7, ⟨some 13, .q (.bin .add .scalar (.t 8) (.t 12)), none, 127⟩⟩,
⟨8, ⟨some 2, .q (.mov (.t 13)), none, 255⟩⟩]) (
.ret)) (
.skip))) (
.seq (
.draw [⟨0, ⟨some 14, .q (.faddr 0 (.t 1)), none, 0⟩⟩,
⟨1, ⟨some 15, .q (.load false 1 (.t 14)), none, 1⟩⟩,
⟨3, ⟨some 17, .q (.faddr 1 (.t 1)), none, 0⟩⟩,
⟨4, ⟨some 18, .q (.load false 1 (.t 17)), none, 8⟩⟩,
⟨7, ⟨some 21, .q (.faddr 2 (.t 1)), none, 0⟩⟩,
⟨8, ⟨some 22, .q (.load false 1 (.t 21)), none, 128⟩⟩,
⟨11, ⟨some 25, .q (.faddr 3 (.t 1)), none, 0⟩⟩,
⟨12, ⟨some 26, .q (.faddr 0 (.t 25)), none, 2048⟩⟩,
⟨13, ⟨some 27, .q (.load false 1 (.t 26)), none, 6144⟩⟩,
⟨16, ⟨some 30, .q (.faddr 3 (.t 1)), none, 0⟩⟩,
⟨17, ⟨some 31, .q (.faddr 1 (.t 30)), none, 65536⟩⟩,
⟨18, ⟨some 32, .q (.load false 1 (.t 31)), none, 196608⟩⟩,
⟨2, ⟨some 16, .e (.callf 237 [(.t 15)]), none, 3⟩⟩,
⟨5, ⟨some 19, .e (.callf 111 [(.t 18)]), none, 31⟩⟩,
⟨6, ⟨some 20, .q (.bin .add .scalar (.t 16) (.t 19)), none, 63⟩⟩,
⟨9, ⟨some 23, .e (.callf 113 [(.t 22)]), none, 447⟩⟩,
⟨10, ⟨some 24, .q (.bin .add .scalar (.t 20) (.t 23)), none, 1023⟩⟩,
⟨14, ⟨some 28, .e (.callf 237 [(.t 27)]), none, 15295⟩⟩,
⟨15, ⟨some 29, .q (.bin .add .scalar (.t 24) (.t 28)), none, 32767⟩⟩,
⟨19, ⟨some 33, .e (.callf 237 [(.t 32)]), none, 490431⟩⟩,
⟨20, ⟨some 34, .q (.bin .add .scalar (.t 29) (.t 33)), none, 1048575⟩⟩,
⟨21, ⟨some 2, .q (.mov (.t 34)), none, 2097151⟩⟩]) (
.ret)))
def a238 : AFunc := ⟨c238, [.tmp 2], true⟩
def c239 : ACode :=
.seq (
.region [M 2 (.alloc 63 2 [dc (.int .i64 0), dc (.sl [] true)]),
Q 3 (.mov (ci 0))]) (
.seq (
.draw [⟨0, ⟨some 7, .q (.load false 1 (.t 0)), none, 0⟩⟩,
⟨1, ⟨some 8, .q (.nilck (.t 7)), none, 1⟩⟩,
⟨2, ⟨some 9, .q (.faddr 1 (.t 8)), none, 3⟩⟩,
⟨3, ⟨some 10, .q (.load false 1 (.t 9)), none, 7⟩⟩,
⟨4, ⟨some 11, .q (.load false 1 (.t 1)), none, 0⟩⟩,
⟨5, ⟨some 12, .e (.callf 191 [(.t 10), (.t 11)]), none, 31⟩⟩,
⟨6, ⟨some 6, .q (.mov (.t 12)), none, 63⟩⟩,
⟨7, ⟨some 13, .q (.extract 0 (.t 6)), none, 127⟩⟩,
⟨8, ⟨some 14, .q (.extract 1 (.t 6)), none, 127⟩⟩,
⟨9, ⟨some 4, .q (.mov (.t 13)), none, 255⟩⟩,
⟨10, ⟨some 5, .q (.mov (.t 14)), none, 1023⟩⟩]) (
.seq (
.region [Q 15 (.load false 1 (.t 0)),
Q 16 (.nilck (.t 15)),
Q 17 (.faddr 3 (.t 16)),
Q 18 (.load true 2 (.t 17)),
Q 19 (.mov (.t 4)),
E 20 (.callf 240 [(.t 18), (.t 19)]),
Q 21 (.mov (.t 5)),
⟨none, .e (.store 2 (.t 2) (.t 20)), none, 0⟩,
Q 3 (.mov (.t 21))]) (
.ret)))
def a239 : AFunc := ⟨c239, [.cell 2 true 2, .tmp 3], false⟩
def c240 : ACode :=
.seq (
.region [M 2 (.box 63 2 (.t 0)),
M 4 (.alloc 63 2 [dc (.int .i64 0), dc (.sl [] true)])]) (
.seq (
.region [Q 5 (.faddr 1 (.t 2)),
Q 6 (.load false 1 (.t 5)),
E 7 (.append 3 1 8 (.c (.one (dc (.sl [] true)))) (.t 6)),
Q 8 (.mov (.t 1)),
M 9 (.bslice 3 1 1 [dc (.int .i64 0)] [(0, 1, (.t 8))]),
E 10 (.append 3 1 8 (.t 7) (.t 9)),
Q 11 (.faddr 1 (.t 2)),
⟨none, .e (.store 1 (.t 11) (.t 10)), none, 0⟩]) (
.seq (
.region [Q 12 (.load true 2 (.t 2)),
⟨none, .e (.store 2 (.t 4) (.t 12)), none, 0⟩]) (
.ret)))
def a240 : AFunc := ⟨c240, [.cell 4 true 2], false⟩
def c241 : ACode :=
.seq (
.region [M 1 (.box 116 8 (.t 0)),
Q 2 (.mov (cb false))]) (
.seq (
.seq (
.region [Q 4 (.faddr 0 (.t 1)),
Q 5 (.load false 1 (.t 4)),
Q 6 (.bin .eql .scalar (.t 5) (ci 3))]) (
.cond (.t 6) (
.seq (
.region [Q 7 (.faddr 5 (.t 1)),
Q 8 (.load true 3 (.t 7)),
E 9 (.callf 242 [(.t 8)]),
Q 10 (.mov (.t 9)),
⟨some 11, .q (.faddr 1 (.t 1)), some (10, true), 0⟩,
⟨some 12, .q (.load false 1 (.t 11)), some (10, true), 0⟩,
⟨some 13, .q (.faddr 5 (.t 1)), some (10, true), 0⟩,
⟨some 14, .q (.faddr 0 (.t 13)), some (10, true), 0⟩,
⟨some 15, .q (.load false 1 (.t 14)), some (10, true), 0⟩,
⟨some 16, .q (.bin .eql .scalar (.t 12) (.t 15)), some (10, true), 0⟩,
Q 17 (.pick (.t 10) (.t 16) (cb false)),
Q 18 (.mov (.t 17)),
⟨some 19, .q (.faddr 2 (.t 1)), some (18, true), 0⟩,
⟨some 20, .q (.load false 1 (.t 19)), some (18, true), 0⟩,
⟨some 21, .q (.len .sl (.t 20)), some (18, true), 0⟩,
⟨some 22, .q (.bin .eql .scalar (.t 21) (ci 0)), some (18, true), 0⟩,
Q 23 (.pick (.t 18) (.t 22) (cb false)),
Q 24 (.mov (.t 23)),
⟨some 25, .q (.faddr 3 (.t 1)), some (24, true), 0⟩,
⟨some 26, .q (.load true 2 (.t 25)), some (24, true), 0⟩,
⟨some 27, .q (.build [dc (.int .i64 0), dc (.int .i64 0)] []), some (24, true), 0⟩,
⟨some 28, .q (.bin .eql (.agg [.int, .int]) (.t 26) (.t 27)), some (24, true), 0⟩,
Q 29 (.pick (.t 24) (.t 28) (cb false)),
Q 2 (.mov (.t 29))]) (
.ret)) (
.skip))) (
.seq (
.region [Q 3 (.mov (ci 16))]) (
.seq (
.seq (
.region [Q 30 (.faddr 0 (.t 1)),
Q 31 (.load false 1 (.t 30)),
Q 32 (.bin .eql .scalar (.t 31) (ci 2))]) (
.cond (.t 32) (
.region [Q 3 (.mov (ci 8))]) (
.skip))) (
.seq (
.seq (
.region [Q 33 (.faddr 0 (.t 1)),
Q 34 (.load false 1 (.t 33)),
Q 35 (.bin .neq .scalar (.t 34) (ci 1)),
Q 36 (.mov (.t 35)),
⟨some 37, .q (.faddr 0 (.t 1)), some (36, true), 0⟩,
⟨some 38, .q (.load false 1 (.t 37)), some (36, true), 0⟩,
⟨some 39, .q (.bin .neq .scalar (.t 38) (ci 2)), some (36, true), 0⟩,
Q 40 (.pick (.t 36) (.t 39) (cb false)),
Q 41 (.mov (.t 40)),
⟨some 42, .q (.faddr 1 (.t 1)), some (41, false), 0⟩,
⟨some 43, .q (.load false 1 (.t 42)), some (41, false), 0⟩,
⟨some 44, .e (.callf 297 [(.t 43)]), some (41, false), 0⟩,
⟨some 45, .q (.un .not (.t 44)), some (41, false), 0⟩,
Q 46 (.pick (.t 41) (cb true) (.t 45)),
Q 47 (.mov (.t 46)),
⟨some 48, .q (.faddr 2 (.t 1)), some (47, false), 0⟩,
⟨some 49, .q (.load false 1 (.t 48)), some (47, false), 0⟩,
⟨some 50, .q (.mov (.t 3)), some (47, false), 0⟩,
⟨some 51, .e (.callf 298 [(.t 49), (.t 50)]), some (47, false), 0⟩,
⟨some 52, .q (.un .not (.t 51)), some (47, false), 0⟩,
Q 53 (.pick (.t 47) (cb true) (.t 52)),
Q 54 (.mov (.t 53)),
⟨some 55, .q (.faddr 5 (.t 1)), some (54, false), 0⟩,
⟨some 56, .q (.load true 3 (.t 55)), some (54, false), 0⟩,
⟨some 57, .q (.build [dc (.str []), dc (.sl [] true), dc (.int .i64 0)] []), some (54, false), 0⟩,
⟨some 58, .e (.callf 299 [(.t 56), (.t 57)]), some (54, false), 0⟩,
⟨some 59, .q (.un .not (.t 58)), some (54, false), 0⟩,
Q 60 (.pick (.t 54) (cb true) (.t 59))]) (
.cond (.t 60) (
.seq (
.region [Q 2 (.mov (cb false))]) (
.ret)) (
.skip))) (
.seq (
.region [Q 61 (.faddr 3 (.t 1)),
Q 62 (.faddr 0 (.t 61)),
Q 63 (.load false 1 (.t 62)),
Q 64 (.bin .geq .scalar (.t 63) (ci 0)),
Q 65 (.mov (.t 64)),
⟨some 66, .q (.faddr 3 (.t 1)), some (65, true), 0⟩,
⟨some 67, .q (.faddr 1 (.t 66)), some (65, true), 0⟩,
⟨some 68, .q (.load false 1 (.t 67)), some (65, true), 0⟩,
⟨some 69, .q (.faddr 3 (.t 1)), some (65, true), 0⟩,
⟨some 70, .q (.faddr 0 (.t 69)), some (65, true), 0⟩,
⟨some 71, .q (.load false 1 (.t 70)), some (65, true), 0⟩,
⟨some 72, .q (.bin .gtr .scalar (.t 68) (.t 71)), some (65, true), 0⟩,
Q 73 (.pick (.t 65) (.t 72) (cb false)),
Q 74 (.mov (.t 73)),
⟨some 75, .q (.faddr 3 (.t 1)), some (74, true), 0⟩,
⟨some 76, .q (.faddr 1 (.t 75)), some (74, true), 0⟩,
⟨some 77, .q (.load false 1 (.t 76)), some (74, true), 0⟩,
⟨some 78, .q (.bin .leq .scalar (.t 77) (ci 1099511627776)), some (74, true), 0⟩,
Q 79 (.pick (.t 74) (.t 78) (cb false)),
Q 2 (.mov (.t 79))]) (
.ret))))))
def a241 : AFunc := ⟨c241, [.tmp 2], true⟩
def c242 : ACode :=
.seq (
.region [M 1 (.box 36 3 (.t 0)),
Q 2 (.mov (cb false))]) (
.seq (
.region [Q 7 (.faddr 1 (.t 1)),
Q 8 (.load false 1 (.t 7)),
Q 9 (.len .sl (.t 8)),
Q 3 (.mov (.t 9))]) (
.seq (
.seq (
.region [Q 10 (.faddr 0 (.t 1)),
Q 11 (.load false 1 (.t 10)),
E 12 (.callf 297 [(.t 11)]),
Q 13 (.un .not (.t 12)),
Q 14 (.mov (.t 13)),
⟨some 15, .q (.mov (.t 3)), some (14, false), 0⟩,
⟨some 16, .q (.bin .lss .scalar (.t 15) (ci 1)), some (14, false), 0⟩,
Q 17 (.pick (.t 14) (cb true) (.t 16)),
Q 18 (.mov (.t 17)),
⟨some 19, .q (.mov (.t 3)), some (18, false), 0⟩,
⟨some 20, .q (.bin .gtr .scalar (.t 19) (ci 16)), some (18, false), 0⟩,
Q 21 (.pick (.t 18) (cb true) (.t 20)),
Q 22 (.mov (.t 21)),
⟨some 23, .q (.faddr 2 (.t 1)), some (22, false), 0⟩,
⟨some 24, .q (.load false 1 (.t 23)), some (22, false), 0⟩,
⟨some 25, .q (.bin .lss .scalar (.t 24) (ci 1)), some (22, false), 0⟩,
Q 26 (.pick (.t 22) (cb true) (.t 25)),
Q 27 (.mov (.t 26)),
⟨some 28, .q (.faddr 2 (.t 1)), some (27, false), 0⟩,
⟨some 29, .q (.load false 1 (.t 28)), some (27, false), 0⟩,
⟨some 30, .q (.bin .gtr .scalar (.t 29) (ci 8)), some (27, false), 0⟩,
Q 31 (.pick (.t 27) (cb true) (.t 30)),
Q 32 (.mov (.t 31)),
⟨some 33, .q (.faddr 2 (.t 1)), some (32, false), 0⟩,
⟨some 34, .q (.load false 1 (.t 33)), some (32, false), 0⟩,
⟨some 35, .q (.mov (.t 3)), some (32, false), 0⟩,
⟨some 36, .q (.bin .gtr .scalar (.t 34) (.t 35)), some (32, false), 0⟩,
Q 37 (.pick (.t 32) (cb true) (.t 36))]) (
.cond (.t 37) (
.seq (
.region [Q 2 (.mov (cb false))]) (
.ret)) (
.skip))) (
.seq (
.seq (
.region [Q 4 (.mov (ci 0))]) (
.block 0 (
.loop (
.seq (
.seq (
.region [Q 38 (.mov (.t 4)),
Q 39 (.mov (.t 3)),
Q 40 (.bin .lss .scalar (.t 38) (.t 39))]) (
.cond (.t 40) (
.skip) (
.exit 0))) (
.seq (
.block 1 (
.seq (
.region [Q 43 (.faddr 1 (.t 1)),
Q 44 (.load false 1 (.t 43)),
Q 45 (.mov (.t 4)),
Q 46 (.iaddr 3 none (.t 44) (.t 45)),
Q 47 (.load true 3 (.t 46)),
M 5 (.alloc 185 3 [dc (.str []), dc (.int .i64 0), dc (.bool false)]),
⟨none, .e (.store 3 (.t 5) (.t 47)), none, 0⟩]) (
.seq (
.seq (
.region [Q 48 (.faddr 0 (.t 5)),
Q 49 (.load false 1 (.t 48)),
E 50 (.callf 297 [(.t 49)]),
Q 51 (.un .not (.t 50)),
Q 52 (.mov (.t 51)),
⟨some 53, .q (.faddr 1 (.t 5)), some (52, false), 0⟩,
⟨some 54, .q (.load false 1 (.t 53)), some (52, false), 0⟩,
⟨some 55, .q (.bin .lss .scalar (.t 54) (ci 1)), some (52, false), 0⟩,
Q 56 (.pick (.t 52) (cb true) (.t 55)),
Q 57 (.mov (.t 56)),
⟨some 58, .q (.faddr 1 (.t 5)), some (57, false), 0⟩,
⟨some 59, .q (.load false 1 (.t 58)), some (57, false), 0⟩,
⟨some 60, .q (.bin .gtr .scalar (.t 59) (ci 5)), some (57, false), 0⟩,
Q 61 (.pick (.t 57) (cb true) (.t 60)),
Q 62 (.mov (.t 61)),
⟨some 63, .q (.mov (.t 4)), some (62, false), 0⟩,
⟨some 64, .q (.faddr 2 (.t 1)), some (62, false), 0⟩,
⟨some 65, .q (.load false 1 (.t 64)), some (62, false), 0⟩,
⟨some 66, .q (.bin .lss .scalar (.t 63) (.t 65)), some (62, false), 0⟩,
⟨some 67, .q (.mov (.t 66)), some (62, false), 0⟩,
⟨some 68, .q (.faddr 2 (.t 5)), some (67, true), 0⟩,
⟨some 69, .q (.load false 1 (.t 68)), some (67, true), 0⟩,
⟨some 70, .q (.un .not (.t 69)), some (67, true), 0⟩,
⟨some 71, .q (.pick (.t 67) (.t 70) (cb false)), some (62, false), 0⟩,
Q 72 (.pick (.t 62) (cb true) (.t 71))]) (
.cond (.t 72) (
.seq (
.region [Q 2 (.mov (cb false))]) (
.ret)) (
.skip))) (
.seq (
.region [Q 6 (.mov (ci 0))]) (
.block 2 (
.loop (
.seq (
.seq (
.region [Q 73 (.mov (.t 6)),
Q 74 (.mov (.t 4)),
Q 75 (.bin .lss .scalar (.t 73) (.t 74))]) (
.cond (.t 75) (
.skip) (
.exit 2))) (
.seq (
.block 3 (
.seq (
.draw [⟨0, ⟨some 78, .q (.faddr 1 (.t 1)), none, 0⟩⟩,
⟨1, ⟨some 79, .q (.load false 1 (.t 78)), none, 1⟩⟩,
⟨2, ⟨some 80, .q (.mov (.t 6)), none, 0⟩⟩,
⟨3, ⟨some 81, .q (.iaddr 3 none (.t 79) (.t 80)), none, 7⟩⟩,
⟨4, ⟨some 82, .q (.faddr 0 (.t 81)), none, 15⟩⟩,
⟨5, ⟨some 83, .q (.load false 1 (.t 82)), none, 31⟩⟩,
⟨6, ⟨some 84, .q (.faddr 0 (.t 5)), none, 0⟩⟩,
⟨7, ⟨some 85, .q (.load false 1 (.t 84)), none, 64⟩⟩,
⟨8, ⟨some 86, .q (.bin .eql .scalar (.t 83) (.t 85)), none, 255⟩⟩]) (
.cond (.t 86) (
.seq (
.region [Q 2 (.mov (cb false))]) (
.ret)) (
.skip)))) (
.region [Q 76 (.mov (.t 6)),
Q 77 (.bin .add .scalar (.t 76) (ci 1)),
Q 6 (.mov (.t 77))]))))))))) (
.region [Q 41 (.mov (.t 4)),
Q 42 (.bin .add .scalar (.t 41) (ci 1)),
Q 4 (.mov (.t 42))])))))) (
.seq (
.region [Q 2 (.mov (cb true))]) (
.ret)))))
def a242 : AFunc := ⟨c242, [.tmp 2], true⟩
def c243 : ACode :=
.seq (
.region [M 1 (.box 128 4 (.t 0)),
Q 2 (.mov (cs []))]) (
.seq (
.seq (
.region [Q 4 (.load true 4 (.t 1)),
E 5 (.callf 300 [(.t 4)]),
Q 6 (.un .not (.t 5))]) (
.cond (.t 6) (
.seq (
.region [Q 2 (.mov (cs []))]) (
.ret)) (
.skip))) (
.seq (
.region [Q 7 (.faddr 0 (.t 1)),
Q 8 (.load false 1 (.t 7)),
Q 9 (.conv (.int .u8) (.t 8)),
M 10 (.bslice 5 1 1 [dc (.int .u8 0)] [(0, 1, (.t 9))]),
Q 11 (.conv .b2s (.t 10)),
Q 3 (.mov (.t 11))]) (
.seq (
.seq (
.region [Q 12 (.faddr 0 (.t 1)),
Q 13 (.load false 1 (.t 12))]) (
.block 0 (
.seq (
.region [Q 15 (.bin .eql .scalar (.t 13) (ci 1)),
Q 14 (.mov (.t 15))]) (
.cond (.t 14) (
.seq (
.region [Q 16 (.mov (.t 3)),
Q 17 (.faddr 1 (.t 1)),
Q 18 (.load false 1 (.t 17)),
Q 19 (.conv (.int .u8) (.t 18)),
M 20 (.bslice 5 1 1 [dc (.int .u8 0)] [(0, 1, (.t 19))]),
Q 21 (.conv .b2s (.t 20)),
Q 22 (.bin .add .scalar (.t 16) (.t 21)),
Q 2 (.mov (.t 22))]) (
.ret)) (
.seq (
.region [Q 24 (.bin .eql .scalar (.t 13) (ci 2)),
Q 23 (.mov (.t 24))]) (
.cond (.t 23) (
.seq (
.region [Q 25 (.mov (.t 3)),
Q 26 (.faddr 1 (.t 1)),
Q 27 (.load false 1 (.t 26)),
E 28 (.callf 301 [(.t 27)]),
Q 29 (.bin .add .scalar (.t 25) (.t 28)),
Q 2 (.mov (.t 29))]) (
.ret)) (
.seq (
.region [Q 31 (.bin .eql .scalar (.t 13) (ci 3)),
Q 30 (.mov (.t 31))]) (
.cond (.t 30) (
.seq (
.region [Q 32 (.mov (.t 3)),
Q 33 (.faddr 2 (.t 1)),
Q 34 (.load false 1 (.t 33)),
E 35 (.callf 177 [(.t 34)]),
Q 36 (.bin .add .scalar (.t 32) (.t 35)),
Q 2 (.mov (.t 36))]) (
.ret)) (
.seq (
.seq (
.region [Q 38 (.bin .eql .scalar (.t 13) (ci 4)),
Q 37 (.mov (.t 38))]) (
.cond (.t 37) (
.skip) (
.region [Q 39 (.bin .eql .scalar (.t 13) (ci 5)),
Q 37 (.mov (.t 39))]))) (
.cond (.t 37) (
.seq (
.region [Q 40 (.mov (.t 3)),
Q 41 (.faddr 3 (.t 1)),
Q 42 (.load false 1 (.t 41)),
E 43 (.callf 174 [(.t 42)]),
Q 44 (.bin .add .scalar (.t 40) (.t 43)),
Q 2 (.mov (.t 44))]) (
.ret)) (
.skip))))))))))) (
.seq (
.region [Q 45 (.mov (.t 3)),
Q 2 (.mov (.t 45))]) (
.ret)))))
def a243 : AFunc := ⟨c243, [.tmp 2], true⟩
def c244 : ACode :=
.seq (
.region [Q 4 (.mov (.c (.one (dc (.int .u32 0)))))]) (
.seq (
.region [Q 8 (.mov (.t 0)),
Q 9 (.bin .sub .scalar (.c (.one (dc (.int .u32 4294967295)))) (.t 8)),
Q 5 (.mov (.t 9))]) (
.seq (
.seq (
.region [Q 6 (.mov (ci 0))]) (
.block 0 (
.loop (
.seq (
.seq (
.region [Q 10 (.mov (.t 6)),
Q 11 (.mov (.t 1)),
Q 12 (.len .str (.t 11)),
Q 13 (.bin .lss .scalar (.t 10) (.t 12))]) (
.cond (.t 13) (
.skip) (
.exit 0))) (
.seq (
.block 1 (
.seq (
.region [Q 16 (.mov (.t 5)),
Q 17 (.mov (.t 1)),
Q 18 (.mov (.t 6)),
Q 19 (.sidx (.t 17) (.t 18)),
Q 20 (.conv (.int .u32) (.t 19)),
Q 21 (.bin .xor .scalar (.t 16) (.t 20)),
Q 5 (.mov (.t 21))]) (
.seq (
.region [Q 7 (.mov (ci 0))]) (
.block 2 (
.loop (
.seq (
.seq (
.region [Q 22 (.mov (.t 7)),
Q 23 (.bin .lss .scalar (.t 22) (ci 8))]) (
.cond (.t 23) (
.skip) (
.exit 2))) (
.seq (
.block 3 (
.seq (
.region [Q 26 (.mov (.t 5)),
Q 27 (.bin .rem .scalar (.t 26) (.c (.one (dc (.int .u32 2))))),
Q 28 (.bin .eql .scalar (.t 27) (.c (.one (dc (.int .u32 1)))))]) (
.cond (.t 28) (
.region [Q 29 (.mov (.t 5)),
Q 30 (.bin .quo .scalar (.t 29) (.c (.one (dc (.int .u32 2))))),
Q 31 (.bin .xor .scalar (.t 30) (.c (.one (dc (.int .u32 3988292384))))),
Q 5 (.mov (.t 31))]) (
.region [Q 32 (.mov (.t 5)),
Q 33 (.bin .quo .scalar (.t 32) (.c (.one (dc (.int .u32 2))))),
Q 5 (.mov (.t 33))])))) (
.region [Q 24 (.mov (.t 7)),
Q 25 (.bin .add .scalar (.t 24) (ci 1)),
Q 7 (.mov (.t 25))])))))))) (
.region [Q 14 (.mov (.t 6)),
Q 15 (.bin .add .scalar (.t 14) (ci 1)),
Q 6 (.mov (.t 15))])))))) (
.seq (
.region [Q 34 (.mov (.t 5)),
Q 35 (.bin .sub .scalar (.c (.one (dc (.int .u32 4294967295)))) (.t 34)),
Q 4 (.mov (.t 35))]) (
.ret))))
def a244 : AFunc := ⟨c244, [.tmp 4], true⟩
def c251 : ACode :=
.seq (
.region [Q 4 (.mov (ci 0))]) (
.seq (
.region [Q 8 (.mov (.t 0)),
Q 9 (.mov (.t 1)),
E 10 (.callf 191 [(.t 8), (.t 9)]),
Q 7 (.mov (.t 10)),
Q 11 (.extract 0 (.t 7)),
Q 12 (.extract 1 (.t 7)),
Q 5 (.mov (.t 11)),
Q 6 (.mov (.t 12))]) (
.seq (
.seq (
.region [Q 13 (.mov (.t 6)),
Q 14 (.bin .neq .scalar (.t 13) (ci 0))]) (
.cond (.t 14) (
.seq (
.region [Q 15 (.mov (.t 6)),
Q 4 (.mov (.t 15))]) (
.ret)) (
.skip))) (
.seq (
.region [Q 16 (.mov (.t 0)),
Q 17 (.mov (.t 0)),
E 18 (.callf 211 [(.t 17)]),
E 19 (.callf 190 [(.t 16), (.t 18)])]) (
.seq (
.draw [⟨0, ⟨some 20, .q (.mov (.t 0)), none, 0⟩⟩,
⟨1, ⟨some 21, .q (.nilck (.t 20)), none, 1⟩⟩,
⟨2, ⟨some 22, .q (.faddr 0 (.t 21)), none, 3⟩⟩,
⟨3, ⟨some 23, .q (.load false 1 (.t 22)), none, 7⟩⟩,
⟨4, ⟨some 24, .m (.bslice 5 1 1 [dc (.int .u8 0)] [(0, 1, (.c (.one (dc (.int .u8 82)))))]), none, 0⟩⟩,
⟨5, ⟨some 25, .q (.conv .b2s (.t 24)), none, 16⟩⟩,
⟨6, ⟨some 26, .q (.mov (.t 5)), none, 0⟩⟩,
⟨7, ⟨some 27, .e (.callf 257 [(.t 26)]), none, 64⟩⟩,
⟨8, ⟨some 28, .q (.bin .add .scalar (.t 25) (.t 27)), none, 240⟩⟩,
⟨9, ⟨some 29, .e (.callf 198 [(.t 23), (ci 1), (.t 28)]), none, 511⟩⟩]) (
.seq (
.region [Q 4 (.mov (ci 0))]) (
.ret))))))
def a251 : AFunc := ⟨c251, [.tmp 4], false⟩
def c252 : ACode :=
.seq (
.region [Q 4 (.mov (.c (.one (dc (.sl [] true))))),
Q 5 (.mov (cs [])),
Q 6 (.mov (ci 0))]) (
.seq (
.block 0 (
.seq (
.region [Q 15 (.mov (.t 0)),
E 16 (.callf 210 [(.t 15)]),
Q 17 (.un .not (.t 16)),
Q 14 (.mov (.t 17))]) (
.cond (.t 14) (
.seq (
.region [Q 4 (.mov (.c (.one (dc (.sl [] true))))),
Q 5 (.mov (cs [])),
Q 6 (.mov (ci 13))]) (
.ret)) (
.seq (
.region [Q 19 (.mov (.t 0)),
Q 20 (.mov (.t 1)),
E 21 (.callf 305 [(.t 19), (.t 20)]),
Q 22 (.un .not (.t 21)),
Q 18 (.mov (.t 22))]) (
.cond (.t 18) (
.seq (
.region [Q 4 (.mov (.c (.one (dc (.sl [] true))))),
Q 5 (.mov (cs [])),
Q 6 (.mov (ci 4))]) (
.ret)) (
.skip)))))) (
.seq (
.region [Q 7 (.mov (.c (.one (dc (.sl [] true)))))]) (
.seq (
.region [Q 8 (.mov (cs []))]) (
.seq (
.seq (
.region [Q 23 (.mov (.t 1)),
Q 9 (.mov (.t 23))]) (
.block 1 (
.loop (
.seq (
.seq (
.region [Q 24 (.mov (.t 9)),
Q 25 (.bin .neq .scalar (.t 24) (ci 0))]) (
.cond (.t 25) (
.skip) (
.exit 1))) (
.block 2 (
.seq (
.seq (
.region [Q 26 (.mov (.t 0)),
Q 27 (.mov (.t 9)),
E 28 (.callf 305 [(.t 26), (.t 27)]),
Q 29 (.un .not (.t 28)),
Q 30 (.mov (.t 29)),
⟨some 31, .q (.mov (.t 7)), some (30, false), 0⟩,
⟨some 32, .q (.len .sl (.t 31)), some (30, false), 0⟩,
⟨some 33, .q (.mov (.t 0)), some (30, false), 0⟩,
⟨some 34, .q (.nilck (.t 33)), some (30, false), 0⟩,
⟨some 35, .q (.faddr 0 (.t 34)), some (30, false), 0⟩,
⟨some 36, .q (.load false 1 (.t 35)), some (30, false), 0⟩,
⟨some 37, .e (.callf 195 [(.t 36)]), some (30, false), 0⟩,
⟨some 38, .q (.bin .gtr .scalar (.t 32) (.t 37)), some (30, false), 0⟩,
Q 39 (.pick (.t 30) (cb true) (.t 38))]) (
.cond (.t 39) (
.seq (
.region [Q 4 (.mov (.c (.one (dc (.sl [] true))))),
Q 5 (.mov (cs [])),
Q 6 (.mov (ci 7))]) (
.ret)) (
.skip))) (
.seq (
.region [Q 41 (.mov (.t 0)),
Q 42 (.nilck (.t 41)),
Q 43 (.faddr 0 (.t 42)),
Q 44 (.load false 1 (.t 43)),
Q 45 (.mov (.t 9)),
E 46 (.callf 199 [(.t 44), (.t 45)]),
Q 40 (.mov (.t 46)),
Q 47 (.extract 0 (.t 40)),
Q 48 (.extract 1 (.t 40)),
Q 10 (.mov (.t 47)),
Q 11 (.mov (.t 48))]) (
.seq (
.draw [⟨0, ⟨some 49, .q (.mov (.t 10)), none, 0⟩⟩,
⟨1, ⟨some 50, .q (.sidx (.t 49) (ci 0)), none, 1⟩⟩,
⟨2, ⟨some 51, .q (.mov (.t 10)), none, 0⟩⟩,
⟨3, ⟨some 52, .q (.sidx (.t 51) (ci 1)), none, 4⟩⟩,
⟨5, ⟨some 54, .q (.mov (.t 10)), none, 0⟩⟩,
⟨6, ⟨some 55, .q (.sidx (.t 54) (ci 2)), none, 32⟩⟩,
⟨7, ⟨some 56, .q (.conv (.int .i64) (.t 55)), none, 96⟩⟩,
⟨4, ⟨some 53, .e (.callf 280 [(.t 50), (.t 52)]), none, 15⟩⟩,
⟨8, ⟨some 12, .q (.mov (.t 53)), none, 31⟩⟩,
⟨9, ⟨some 13, .q (.mov (.t 56)), none, 511⟩⟩]) (
.seq (
.seq (
.region [Q 57 (.mov (.t 13)),
Q 58 (.bin .gtr .scalar (.t 57) (ci 125)),
Q 59 (.mov (.t 58)),
⟨some 60, .q (.mov (.t 12)), some (59, false), 0⟩,
⟨some 61, .q (.bin .gtr .scalar (.t 60) (ci 0)), some (59, false), 0⟩,
⟨some 62, .q (.mov (.t 61)), some (59, false), 0⟩,
⟨some 63, .q (.mov (.t 13)), some (62, true), 0⟩,
⟨some 64, .q (.bin .lss .scalar (.t 63) (ci 125)), some (62, true), 0⟩,
⟨some 65, .q (.pick (.t 62) (.t 64) (cb false)), some (59, false), 0⟩,
Q 66 (.pick (.t 59) (cb true) (.t 65))]) (
.cond (.t 66) (
.seq (
.region [Q 4 (.mov (.c (.one (dc (.sl [] true))))),
Q 5 (.mov (cs [])),
Q 6 (.mov (ci 7))]) (
.ret)) (
.skip))) (
.seq (
.region [Q 67 (.mov (.t 7)),
Q 68 (.mov (.t 9)),
M 69 (.bslice 3 1 1 [dc (.int .i64 0)] [(0, 1, (.t 68))]),
E 70 (.append 3 1 8 (.t 67) (.t 69)),
Q 7 (.mov (.t 70))]) (
.seq (
.region [Q 71 (.mov (.t 8)),
Q 72 (.mov (.t 10)),
Q 73 (.mov (.t 13)),
Q 74 (.bin .add .scalar (ci 3) (.t 73)),
Q 75 (.sslice (.t 72) (some (ci 3)) (some (.t 74))),
Q 76 (.bin .add .scalar (.t 71) (.t 75)),
Q 8 (.mov (.t 76))]) (
.region [Q 77 (.mov (.t 12)),
Q 9 (.mov (.t 77))])))))))))))) (
.seq (
.region [Q 78 (.mov (.t 7)),
Q 79 (.mov (.t 8)),
Q 4 (.mov (.t 78)),
Q 5 (.mov (.t 79)),
Q 6 (.mov (ci 0))]) (
.ret))))))
def a252 : AFunc := ⟨c252, [.tmp 4, .tmp 5, .tmp 6], false⟩
def c253 : ACode :=
.seq (
.region [Q 4 (.mov (ci 0))]) (
.seq (
.region [Q 6 (.mov (.t 0)),
Q 7 (.mov (.t 1)),
E 8 (.callf 263 [(.t 6), (.t 7)]),
Q 5 (.mov (.t 8))]) (
.seq (
.block 0 (
.seq (
.region [Q 10 (.mov (.t 5)),
Q 11 (.bin .neq .scalar (.t 10) (ci 0)),
Q 9 (.mov (.t 11))]) (
.cond (.t 9) (
.seq (
.region [Q 12 (.mov (.t 5)),
Q 4 (.mov (.t 12))]) (
.ret)) (
.seq (
.region [Q 14 (.mov (.t 1)),
Q 15 (.bin .eql .scalar (.t 14) (ci 0)),
Q 13 (.mov (.t 15))]) (
.cond (.t 13) (
.seq (
.region [Q 4 (.mov (ci 1))]) (
.ret)) (
.seq (
.region [Q 17 (.mov (.t 0)),
Q 18 (.mov (.t 1)),
E 19 (.callf 196 [(.t 17), (.t 18)]),
Q 16 (.mov (.t 19))]) (
.cond (.t 16) (
.seq (
.region [Q 4 (.mov (ci 6))]) (
.ret)) (
.skip)))))))) (
.seq (
.region [Q 20 (.mov (.t 0)),
Q 21 (.mov (.t 1)),
E 22 (.callf 265 [(.t 20), (.t 21)])]) (
.seq (
.region [Q 4 (.mov (ci 0))]) (
.ret)))))
def a253 : AFunc := ⟨c253, [.tmp 4], false⟩
def c254 : ACode :=
.seq (
.region [Q 2 (.mov (ci 0))]) (
.seq (
.region [Q 3 (.mov (ci 0))]) (
.seq (
.seq (
.region [Q 5 (.mov (.t 0)),
E 6 (.callf 195 [(.t 5)]),
Q 7 (.mov (ci 0))]) (
.block 0 (
.loop (
.seq (
.region [Q 8 (.bin .lss .scalar (.t 7) (.t 6))]) (
.seq (
.cond (.t 8) (
.skip) (
.exit 0)) (
.seq (
.block 1 (
.seq (
.region [Q 9 (.mov (.t 7)),
Q 4 (.mov (.t 9))]) (
.seq (
.region [Q 10 (.mov (.t 0)),
Q 11 (.mov (.t 4)),
E 12 (.callf 196 [(.t 10), (.t 11)])]) (
.cond (.t 12) (
.region [Q 13 (.mov (.t 3)),
Q 14 (.bin .add .scalar (.t 13) (ci 1)),
Q 3 (.mov (.t 14))]) (
.skip))))) (
.region [Q 15 (.bin .add .scalar (.t 7) (ci 1)),
Q 7 (.mov (.t 15))]))))))) (
.seq (
.region [Q 16 (.mov (.t 3)),
Q 2 (.mov (.t 16))]) (
.ret))))
def a254 : AFunc := ⟨c254, [.tmp 2], false⟩
def c255 : ACode :=
.seq (
.region [Q 4 (.mov (ci 0))]) (
.seq (
.seq (
.region [Q 5 (.mov (.t 1)),
Q 6 (.bin .lss .scalar (.t 5) (ci 0)),
Q 7 (.mov (.t 6)),
⟨some 8, .q (.mov (.t 1)), some (7, false), 0⟩,
⟨some 9, .q (.bin .gtr .scalar (.t 8) (ci 100000)), some (7, false), 0⟩,
Q 10 (.pick (.t 7) (cb true) (.t 9))]) (
.cond (.t 10) (
.seq (
.region [Q 4 (.mov (ci 0))]) (
.ret)) (
.skip))) (
.seq (
.region [Q 11 (.mov (.t 1)),
Q 12 (.bin .add .scalar (.t 11) (ci 125)),
Q 13 (.bin .sub .scalar (.t 12) (ci 1)),
Q 14 (.bin .quo .scalar (.t 13) (ci 125)),
Q 15 (.mnmx true (ci 1) (.t 14)),
Q 4 (.mov (.t 15))]) (
.ret)))
def a255 : AFunc := ⟨c255, [.tmp 4], false⟩
def c256 : ACode :=
.seq (
.region [Q 4 (.mov (.c (.one (dc (.sl [] true)))))]) (
.seq (
.region [Q 8 (.mov (.t 1)),
M 9 (.s2b 5 (.t 8)),
Q 5 (.mov (.t 9))]) (
.seq (
.region [Q 6 (.mov (.c (.one (dc (.sl [] true)))))]) (
.seq (
.seq (
.region [Q 10 (.mov (.t 0)),
Q 11 (.mov (.t 1)),
Q 12 (.len .str (.t 11)),
E 13 (.callf 255 [(.t 10), (.t 12)]),
Q 14 (.mov (ci 0))]) (
.block 0 (
.loop (
.seq (
.region [Q 15 (.bin .lss .scalar (.t 14) (.t 13))]) (
.seq (
.cond (.t 15) (
.skip) (
.exit 0)) (
.seq (
.block 1 (
.seq (
.region [Q 16 (.mov (.t 5)),
Q 17 (.len .sl (.t 16)),
Q 18 (.mnmx false (ci 125) (.t 17)),
Q 7 (.mov (.t 18))]) (
.seq (
.region [Q 19 (.mov (.t 6)),
Q 20 (.mov (.t 5)),
Q 21 (.mov (.t 7)),
Q 22 (.mov (.t 7)),
Q 23 (.slice 1 (.t 20) none (some (.t 21)) (some (.t 22))),
M 24 (.bslice 192 1 1 [dc (.sl [] true)] [(0, 1, (.t 23))]),
E 25 (.append 192 1 24 (.t 19) (.t 24)),
Q 6 (.mov (.t 25))]) (
.region [Q 26 (.mov (.t 5)),
Q 27 (.mov (.t 7)),
Q 28 (.slice 1 (.t 26) (some (.t 27)) none none),
Q 5 (.mov (.t 28))])))) (
.region [Q 29 (.bin .add .scalar (.t 14) (ci 1)),
Q 14 (.mov (.t 29))]))))))) (
.seq (
.region [Q 30 (.mov (.t 6)),
Q 4 (.mov (.t 30))]) (
.ret)))))
def a256 : AFunc := ⟨c256, [.tmp 4], false⟩
def c257 : ACode :=
.seq (
.region [Q 2 (.mov (cs []))]) (
.seq (
.region [Q 3 (.mov (.t 0)),
Q 4 (.bin .quo .scalar (.t 3) (ci 256)),
Q 5 (.conv (.int .u8) (.t 4)),
Q 6 (.mov (.t 0)),
Q 7 (.bin .rem .scalar (.t 6) (ci 256)),
Q 8 (.conv (.int .u8) (.t 7)),
M 9 (.bslice 5 1 2 [dc (.int .u8 0), dc (.int .u8 0)] [(0, 1, (.t 5)), (1, 1, (.t 8))]),
Q 10 (.conv .b2s (.t 9)),
Q 2 (.mov (.t 10))]) (
.ret))
def a257 : AFunc := ⟨c257, [.tmp 2], false⟩
def c258 : ACode :=
.seq (
.region [Q 4 (.mov (ci 0)),
Q 5 (.mov (ci 0))]) (
.seq (
.draw [⟨0, ⟨some 16, .q (.mov (.t 0)), none, 0⟩⟩,
⟨1, ⟨some 17, .q (.nilck (.t 16)), none, 1⟩⟩,
⟨2, ⟨some 18, .q (.faddr 0 (.t 17)), none, 3⟩⟩,
⟨3, ⟨some 19, .q (.load false 1 (.t 18)), none, 7⟩⟩,
⟨4, ⟨some 20, .q (.mov (.t 0)), none, 0⟩⟩,
⟨5, ⟨some 21, .q (.nilck (.t 20)), none, 16⟩⟩,
⟨6, ⟨some 22, .q (.faddr 1 (.t 21)), none, 48⟩⟩,
⟨7, ⟨some 23, .q (.load false 1 (.t 22)), none, 112⟩⟩,
⟨8, ⟨some 24, .q (.mov (.t 1)), none, 0⟩⟩,
⟨9, ⟨some 25, .q (.bin .add .scalar (.t 23) (.t 24)), none, 496⟩⟩,
⟨10, ⟨some 26, .e (.callf 268 [(.t 19), (.t 25)]), none, 1023⟩⟩,
⟨11, ⟨some 15, .q (.mov (.t 26)), none, 2047⟩⟩,
⟨12, ⟨some 27, .q (.extract 0 (.t 15)), none, 4095⟩⟩,
⟨13, ⟨some 28, .q (.extract 1 (.t 15)), none, 4095⟩⟩,
⟨14, ⟨some 6, .q (.mov (.t 27)), none, 8191⟩⟩,
⟨15, ⟨some 7, .q (.mov (.t 28)), none, 32767⟩⟩]) (
.seq (
.region [Q 30 (.mov (.t 6)),
E 31 (.callf 306 [(.t 30)]),
Q 29 (.mov (.t 31)),
Q 32 (.extract 0 (.t 29)),
Q 33 (.extract 1 (.t 29)),
Q 8 (.mov (.t 32)),
Q 9 (.mov (.t 33))]) (
.seq (
.region [Q 35 (.mov (.t 8)),
E 36 (.callf 307 [(.t 35), (cs [83])]),
Q 34 (.mov (.t 36)),
Q 37 (.extract 0 (.t 34)),
Q 38 (.extract 1 (.t 34)),
Q 10 (.mov (.t 37)),
Q 11 (.mov (.t 38))]) (
.seq (
.region [Q 39 (.mov (.t 10)),
E 40 (.callf 114 [(.t 39)]),
Q 12 (.mov (.t 40))]) (
.seq (
.region [Q 41 (.mov (.t 12)),
E 42 (.callf 160 [(.t 41)]),
Q 13 (.mov (.t 42))]) (
.seq (
.region [Q 43 (.mov (.t 12)),
E 44 (.callf 160 [(.t 43)]),
Q 14 (.mov (.t 44))]) (
.seq (
.seq (
.region [Q 45 (.mov (.t 11)),
Q 46 (.un .not (.t 45)),
Q 47 (.mov (.t 46)),
⟨some 48, .q (.mov (.t 12)), some (47, false), 0⟩,
⟨some 49, .e (.callf 119 [(.t 48)]), some (47, false), 0⟩,
⟨some 50, .q (.bin .neq .scalar (.t 49) (ci 0)), some (47, false), 0⟩,
Q 51 (.pick (.t 47) (cb true) (.t 50)),
Q 52 (.mov (.t 51)),
⟨some 53, .q (.mov (.t 12)), some (52, false), 0⟩,
⟨some 54, .e (.callf 308 [(.t 53)]), some (52, false), 0⟩,
⟨some 55, .q (.bin .gtr .scalar (.t 54) (ci 0)), some (52, false), 0⟩,
Q 56 (.pick (.t 52) (cb true) (.t 55)),
Q 57 (.mov (.t 56)),
⟨some 58, .q (.mov (.t 13)), some (57, false), 0⟩,
⟨some 59, .q (.bin .gtr .scalar (.t 58) (.c (.one (dc (.int .u64 1099511627776))))), some (57, false), 0⟩,
Q 60 (.pick (.t 57) (cb true) (.t 59)),
Q 61 (.mov (.t 60)),
⟨some 62, .q (.mov (.t 14)), some (61, false), 0⟩,
⟨some 63, .q (.mov (.t 13)), some (61, false), 0⟩,
⟨some 64, .q (.bin .gtr .scalar (.t 62) (.t 63)), some (61, false), 0⟩,
Q 65 (.pick (.t 61) (cb true) (.t 64))]) (
.cond (.t 65) (
.seq (
.region [Q 4 (.mov (ci 0)),
Q 5 (.mov (ci 0))]) (
.ret)) (
.skip))) (
.seq (
.region [Q 66 (.mov (.t 13)),
Q 67 (.conv (.int .i64) (.t 66)),
Q 68 (.mov (.t 14)),
Q 69 (.conv (.int .i64) (.t 68)),
Q 4 (.mov (.t 67)),
Q 5 (.mov (.t 69))]) (
.ret)))))))))
def a258 : AFunc := ⟨c258, [.tmp 4, .tmp 5], false⟩
def c259 : ACode :=
.seq (
.draw [⟨0, ⟨some 10, .q (.mov (.t 0)), none, 0⟩⟩,
⟨1, ⟨some 11, .q (.nilck (.t 10)), none, 1⟩⟩,
⟨2, ⟨some 12, .q (.faddr 4 (.t 11)), none, 3⟩⟩,
⟨3, ⟨some 13, .q (.load false 1 (.t 12)), none, 7⟩⟩,
⟨4, ⟨some 2, .q (.mov (cs [])), none, 0⟩⟩,
⟨5, ⟨some 3, .q (.mov (cs [])), none, 16⟩⟩,
⟨6, ⟨some 4, .q (.mov (ci 0)), none, 48⟩⟩,
⟨7, ⟨some 5, .q (.mov (.t 13)), none, 127⟩⟩]) (
.seq (
.skip) (
.seq (
.region [Q 6 (.mov (ci 0))]) (
.block 0 (
.loop (
.seq (
.seq (
.region [Q 14 (.mov (.t 6)),
Q 15 (.mov (.t 0)),
Q 16 (.nilck (.t 15)),
Q 17 (.faddr 2 (.t 16)),
Q 18 (.load false 1 (.t 17)),
Q 19 (.bin .lss .scalar (.t 14) (.t 18))]) (
.cond (.t 19) (
.skip) (
.exit 0))) (
.seq (
.block 1 (
.seq (
.region [Q 23 (.mov (.t 0)),
Q 24 (.mov (.t 6)),
E 25 (.callf 309 [(.t 23), (.t 24)]),
Q 22 (.mov (.t 25)),
Q 26 (.extract 0 (.t 22)),
Q 27 (.extract 1 (.t 22)),
M 7 (.alloc 325 4 [dc (.int .i64 0), dc (.str []), dc (.str []), dc (.bool false)]),
⟨none, .e (.store 4 (.t 7) (.t 26)), none, 0⟩,
Q 8 (.mov (.t 27))]) (
.seq (
.region [Q 28 (.mov (.t 6)),
Q 29 (.mov (.t 4)),
Q 30 (.bin .eql .scalar (.t 28) (.t 29)),
Q 9 (.mov (.t 30))]) (
.seq (
.block 2 (
.seq (
.seq (
.region [Q 32 (.mov (.t 8)),
Q 33 (.un .not (.t 32)),
Q 31 (.mov (.t 33))]) (
.cond (.t 31) (
.skip) (
.seq (
.region [Q 34 (.faddr 0 (.t 7)),
Q 35 (.load false 1 (.t 34)),
Q 36 (.mov (.t 5)),
Q 37 (.bin .lss .scalar (.t 35) (.t 36)),
Q 31 (.mov (.t 37))]) (
.cond (.t 31) (
.skip) (
.draw [⟨0, ⟨some 38, .q (.faddr 0 (.t 7)), none, 0⟩⟩,
⟨1, ⟨some 39, .q (.load false 1 (.t 38)), none, 1⟩⟩,
⟨2, ⟨some 40, .q (.mov (.t 0)), none, 0⟩⟩,
⟨3, ⟨some 41, .q (.nilck (.t 40)), none, 4⟩⟩,
⟨4, ⟨some 42, .q (.faddr 3 (.t 41)), none, 12⟩⟩,
⟨5, ⟨some 43, .q (.load false 1 (.t 42)), none, 28⟩⟩,
⟨6, ⟨some 44, .q (.bin .gtr .scalar (.t 39) (.t 43)), none, 63⟩⟩,
⟨7, ⟨some 31, .q (.mov (.t 44)), none, 127⟩⟩]))))) (
.cond (.t 31) (
.exit 0) (
.seq (
.region [Q 46 (.mov (.t 9)),
Q 47 (.un .not (.t 46)),
Q 48 (.mov (.t 47)),
⟨some 49, .q (.faddr 0 (.t 7)), some (48, true), 0⟩,
⟨some 50, .q (.load false 1 (.t 49)), some (48, true), 0⟩,
⟨some 51, .q (.mov (.t 5)), some (48, true), 0⟩,
⟨some 52, .q (.bin .neq .scalar (.t 50) (.t 51)), some (48, true), 0⟩,
⟨some 53, .q (.mov (.t 52)), some (48, true), 0⟩,
⟨some 54, .q (.faddr 1 (.t 7)), some (53, false), 0⟩,
⟨some 55, .q (.load false 1 (.t 54)), some (53, false), 0⟩,
⟨some 56, .q (.mov (.t 3)), some (53, false), 0⟩,
⟨some 57, .q (.bin .neq .scalar (.t 55) (.t 56)), some (53, false), 0⟩,
⟨some 58, .q (.pick (.t 53) (cb true) (.t 57)), some (48, true), 0⟩,
⟨some 59, .q (.mov (.t 58)), some (48, true), 0⟩,
⟨some 60, .q (.faddr 2 (.t 7)), some (59, false), 0⟩,
⟨some 61, .q (.load false 1 (.t 60)), some (59, false), 0⟩,
⟨some 62, .q (.bin .eql .scalar (.t 61) (cs [])), some (59, false), 0⟩,
⟨some 63, .q (.pick (.t 59) (cb true) (.t 62)), some (48, true), 0⟩,
Q 64 (.pick (.t 48) (.t 63) (cb false)),
Q 45 (.mov (.t 64))]) (
.cond (.t 45) (
.exit 0) (
.skip)))))) (
.seq (
.draw [⟨0, ⟨some 65, .q (.mov (.t 2)), none, 0⟩⟩,
⟨1, ⟨some 66, .q (.faddr 2 (.t 7)), none, 0⟩⟩,
⟨2, ⟨some 67, .q (.load false 1 (.t 66)), none, 2⟩⟩,
⟨3, ⟨some 68, .q (.bin .add .scalar (.t 65) (.t 67)), none, 7⟩⟩,
⟨4, ⟨some 69, .q (.faddr 1 (.t 7)), none, 0⟩⟩,
⟨5, ⟨some 70, .q (.load false 1 (.t 69)), none, 16⟩⟩,
⟨6, ⟨some 71, .q (.faddr 0 (.t 7)), none, 0⟩⟩,
⟨7, ⟨some 72, .q (.load false 1 (.t 71)), none, 64⟩⟩,
⟨8, ⟨some 2, .q (.mov (.t 68)), none, 15⟩⟩,
⟨9, ⟨some 3, .q (.mov (.t 70)), none, 319⟩⟩,
⟨10, ⟨some 5, .q (.mov (.t 72)), none, 1023⟩⟩]) (
.seq (
.seq (
.region [Q 73 (.faddr 3 (.t 7)),
Q 74 (.load false 1 (.t 73))]) (
.cond (.t 74) (
.exit 1) (
.skip))) (
.seq (
.seq (
.region [Q 75 (.mov (.t 2)),
E 76 (.callf 276 [(.t 75)]),
Q 77 (.mov (.t 3)),
Q 78 (.bin .neq .scalar (.t 76) (.t 77))]) (
.cond (.t 78) (
.exit 0) (
.skip))) (
.seq (
.region [Q 79 (.mov (.t 0)),
Q 80 (.mov (.t 0)),
Q 81 (.nilck (.t 80)),
Q 82 (.faddr 6 (.t 81)),
Q 83 (.load false 1 (.t 82)),
Q 84 (.mov (.t 2)),
M 85 (.bslice 9 1 1 [dc (.str [])] [(0, 1, (.t 84))]),
E 86 (.append 9 1 16 (.t 83) (.t 85)),
Q 87 (.nilck (.t 79)),
Q 88 (.faddr 6 (.t 87)),
⟨none, .e (.store 1 (.t 88) (.t 86)), none, 0⟩]) (
.seq (
.region [Q 89 (.mov (.t 6)),
Q 90 (.bin .add .scalar (.t 89) (ci 1)),
Q 2 (.mov (cs [])),
Q 4 (.mov (.t 90))]) (
.region [Q 91 (.mov (.t 0)),
Q 92 (.mov (.t 4)),
Q 93 (.nilck (.t 91)),
Q 94 (.faddr 5 (.t 93)),
⟨none, .e (.store 1 (.t 94) (.t 92)), none, 0⟩])))))))))) (
.region [Q 20 (.mov (.t 6)),
Q 21 (.bin .add .scalar (.t 20) (ci 1)),
Q 6 (.mov (.t 21))])))))))
def a259 : AFunc := ⟨c259, [], false⟩
def c260 : ACode :=
.seq (
.region [Q 4 (.mov (ci 0))]) (
.seq (
.region [Q 8 (.mov (.t 0)),
Q 9 (.nilck (.t 8)),
Q 10 (.faddr 3 (.t 9)),
Q 11 (.load false 1 (.t 10)),
Q 12 (.bin .add .scalar (.t 11) (ci 1)),
Q 5 (.mov (.t 12))]) (
.seq (
.seq (
.draw [⟨0, ⟨some 13, .q (.mov (.t 0)), none, 0⟩⟩,
⟨1, ⟨some 14, .q (.nilck (.t 13)), none, 1⟩⟩,
⟨2, ⟨some 15, .q (.faddr 0 (.t 14)), none, 3⟩⟩,
⟨3, ⟨some 16, .q (.load false 1 (.t 15)), none, 7⟩⟩,
⟨4, ⟨some 17, .q (.mov (.t 0)), none, 0⟩⟩,
⟨5, ⟨some 18, .q (.nilck (.t 17)), none, 16⟩⟩,
⟨6, ⟨some 19, .q (.faddr 1 (.t 18)), none, 48⟩⟩,
⟨7, ⟨some 20, .q (.load false 1 (.t 19)), none, 112⟩⟩,
⟨8, ⟨some 21, .q (.mov (.t 5)), none, 0⟩⟩,
⟨9, ⟨some 22, .q (.bin .rem .scalar (.t 21) (ci 2)), none, 256⟩⟩,
⟨10, ⟨some 23, .q (.bin .add .scalar (.t 20) (.t 22)), none, 1008⟩⟩,
⟨11, ⟨some 24, .q (.mov (.t 5)), none, 0⟩⟩,
⟨14, ⟨some 27, .q (.mov (.t 1)), none, 0⟩⟩,
⟨12, ⟨some 25, .e (.callf 310 [(.t 24)]), none, 2048⟩⟩,
⟨13, ⟨some 26, .q (.bin .add .scalar (cs [83]) (.t 25)), none, 6144⟩⟩,
⟨15, ⟨some 28, .e (.callf 310 [(.t 27)]), none, 22528⟩⟩,
⟨16, ⟨some 29, .q (.bin .add .scalar (.t 26) (.t 28)), none, 63488⟩⟩,
⟨17, ⟨some 30, .e (.callf 274 [(.t 29)]), none, 129024⟩⟩,
⟨18, ⟨some 31, .e (.callf 273 [(.t 16), (.t 23), (.t 30)]), none, 262143⟩⟩,
⟨19, ⟨some 6, .q (.mov (.t 31)), none, 524287⟩⟩]) (
.seq (
.region [Q 32 (.mov (.t 6)),
Q 33 (.bin .neq .scalar (.t 32) (ci 0))]) (
.cond (.t 33) (
.seq (
.region [Q 34 (.mov (.t 6)),
Q 4 (.mov (.t 34))]) (
.ret)) (
.skip)))) (
.seq (
.seq (
.region [Q 35 (.mov (.t 0)),
Q 36 (.nilck (.t 35)),
Q 37 (.faddr 0 (.t 36)),
Q 38 (.load false 1 (.t 37)),
E 39 (.callf 277 [(.t 38)]),
Q 7 (.mov (.t 39))]) (
.seq (
.region [Q 40 (.mov (.t 7)),
Q 41 (.bin .neq .scalar (.t 40) (ci 0))]) (
.cond (.t 41) (
.seq (
.region [Q 42 (.mov (.t 7)),
Q 4 (.mov (.t 42))]) (
.ret)) (
.skip)))) (
.seq (
.region [Q 43 (.mov (.t 0)),
Q 44 (.mov (.t 0)),
Q 45 (.mov (.t 5)),
Q 46 (.mov (.t 1)),
Q 47 (.nilck (.t 43)),
Q 48 (.faddr 3 (.t 47)),
⟨none, .e (.store 1 (.t 48) (.t 45)), none, 0⟩,
Q 49 (.nilck (.t 44)),
Q 50 (.faddr 4 (.t 49)),
⟨none, .e (.store 1 (.t 50) (.t 46)), none, 0⟩]) (
.seq (
.region [Q 4 (.mov (ci 0))]) (
.ret))))))
def a260 : AFunc := ⟨c260, [.tmp 4], false⟩
def c261 : ACode :=
.seq (
.region [Q 2 (.mov (.c (.one (dc (.sl [] true)))))]) (
.seq (
.seq (
.region [Q 3 (.mov (.t 0)),
Q 4 (.bin .eql .ptr (.t 3) (.c (.one (dc (.nilp)))))]) (
.cond (.t 4) (
.seq (
.region [Q 2 (.mov (.c (.one (dc (.sl [] true)))))]) (
.ret)) (
.skip))) (
.seq (
.region [Q 5 (.mov (.t 0)),
Q 6 (.nilck (.t 5)),
Q 7 (.faddr 6 (.t 6)),
Q 8 (.load false 1 (.t 7)),
E 9 (.append 9 1 16 (.c (.one (dc (.sl [] true)))) (.t 8)),
Q 2 (.mov (.t 9))]) (
.ret)))
def a261 : AFunc := ⟨c261, [.tmp 2], false⟩
def c262 : ACode :=
.seq (
.region [Q 4 (.mov (.c (.one (dc (.nilm))))),
Q 5 (.mov (cb false))]) (
.seq (
.region [Q 11 (.mov (.t 1)),
E 12 (.callf 114 [(.t 11)]),
Q 6 (.mov (.t 12))]) (
.seq (
.region [M 13 (.mkmap (.int .i64)),
Q 7 (.mov (.t 13))]) (
.seq (
.seq (
.region [Q 14 (.mov (.t 6)),
E 15 (.callf 160 [(.t 14)]),
Q 8 (.mov (.t 15))]) (
.block 0 (
.loop (
.seq (
.seq (
.region [Q 16 (.mov (.t 8)),
Q 17 (.bin .gtr .scalar (.t 16) (.c (.one (dc (.int .u64 0))))),
Q 18 (.mov (.t 17)),
⟨some 19, .q (.mov (.t 6)), some (18, true), 0⟩,
⟨some 20, .e (.callf 119 [(.t 19)]), some (18, true), 0⟩,
⟨some 21, .q (.bin .eql .scalar (.t 20) (ci 0)), some (18, true), 0⟩,
Q 22 (.pick (.t 18) (.t 21) (cb false))]) (
.cond (.t 22) (
.skip) (
.exit 0))) (
.seq (
.block 1 (
.seq (
.region [Q 25 (.mov (.t 6)),
E 26 (.callf 160 [(.t 25)]),
Q 27 (.mov (.t 6)),
E 28 (.callf 162 [(.t 27)]),
Q 9 (.mov (.t 26)),
Q 10 (.mov (.t 28))]) (
.seq (
.seq (
.region [Q 29 (.mov (.t 9)),
Q 30 (.mov (.t 0)),
E 31 (.callf 195 [(.t 30)]),
Q 32 (.conv (.int .u64) (.t 31)),
Q 33 (.bin .geq .scalar (.t 29) (.t 32)),
Q 34 (.mov (.t 33)),
⟨some 35, .q (.mov (.t 10)), some (34, false), 0⟩,
⟨some 36, .q (.len .str (.t 35)), some (34, false), 0⟩,
⟨some 37, .q (.bin .gtr .scalar (.t 36) (ci 128)), some (34, false), 0⟩,
Q 38 (.pick (.t 34) (cb true) (.t 37))]) (
.cond (.t 38) (
.seq (
.region [Q 4 (.mov (.c (.one (dc (.nilm))))),
Q 5 (.mov (cb false))]) (
.ret)) (
.skip))) (
.region [Q 39 (.mov (.t 7)),
Q 40 (.mov (.t 9)),
Q 41 (.conv (.int .i64) (.t 40)),
Q 42 (.mov (.t 10)),
E 43 (.callf 267 [(.t 42)]),
⟨none, .e (.mapup (.int .i64) (.t 39) (.t 41) (.t 43)), none, 0⟩])))) (
.region [Q 23 (.mov (.t 8)),
Q 24 (.bin .sub .scalar (.t 23) (.c (.one (dc (.int .u64 1))))),
Q 8 (.mov (.t 24))])))))) (
.seq (
.region [Q 44 (.mov (.t 7)),
Q 45 (.mov (.t 0)),
Q 46 (.mov (.t 7)),
E 47 (.callf 201 [(.t 45), (.t 46)]),
Q 48 (.mov (.t 1)),
Q 49 (.bin .eql .scalar (.t 47) (.t 48)),
Q 4 (.mov (.t 44)),
Q 5 (.mov (.t 49))]) (
.ret)))))
def a262 : AFunc := ⟨c262, [.tmp 4, .tmp 5], false⟩
def c263 : ACode :=
.seq (
.region [Q 4 (.mov (ci 0))]) (
.seq (
.block 0 (
.seq (
.region [Q 6 (.mov (.t 0)),
E 7 (.callf 200 [(.t 6)]),
Q 8 (.un .not (.t 7)),
Q 5 (.mov (.t 8))]) (
.cond (.t 5) (
.seq (
.region [Q 4 (.mov (ci 13))]) (
.ret)) (
.seq (
.region [Q 10 (.mov (.t 1)),
Q 11 (.bin .lss .scalar (.t 10) (ci 0)),
Q 12 (.mov (.t 11)),
⟨some 13, .q (.mov (.t 1)), some (12, false), 0⟩,
⟨some 14, .q (.mov (.t 0)), some (12, false), 0⟩,
⟨some 15, .e (.callf 195 [(.t 14)]), some (12, false), 0⟩,
⟨some 16, .q (.bin .geq .scalar (.t 13) (.t 15)), some (12, false), 0⟩,
Q 17 (.pick (.t 12) (cb true) (.t 16)),
Q 9 (.mov (.t 17))]) (
.cond (.t 9) (
.seq (
.region [Q 4 (.mov (ci 2))]) (
.ret)) (
.skip)))))) (
.seq (
.region [Q 4 (.mov (ci 0))]) (
.ret)))
def a263 : AFunc := ⟨c263, [.tmp 4], false⟩
def c264 : ACode :=
.seq (
.region [Q 2 (.mov (.c (.one (dc (.int .u8 0)))))]) (
.seq (
.region [Q 3 (.mov (.t 0)),
Q 4 (.bin .rem .scalar (.t 3) (ci 8)),
Q 5 (.bin .shl .scalar (.c (.one (dc (.int .u8 1)))) (.t 4)),
Q 2 (.mov (.t 5))]) (
.ret))
def a264 : AFunc := ⟨c264, [.tmp 2], false⟩
def c265 : ACode :=
.seq (
.region [Q 8 (.mov (.t 0)),
E 9 (.callf 199 [(.t 8), (ci 0)]),
Q 7 (.mov (.t 9)),
Q 10 (.extract 0 (.t 7)),
Q 11 (.extract 1 (.t 7)),
Q 4 (.mov (.t 10)),
Q 5 (.mov (.t 11))]) (
.seq (
.region [Q 12 (.mov (.t 4)),
M 13 (.s2b 5 (.t 12)),
Q 6 (.mov (.t 13))]) (
.seq (
.draw [⟨0, ⟨some 14, .q (.mov (.t 6)), none, 0⟩⟩,
⟨1, ⟨some 15, .q (.mov (.t 1)), none, 0⟩⟩,
⟨2, ⟨some 16, .q (.bin .quo .scalar (.t 15) (ci 8)), none, 2⟩⟩,
⟨3, ⟨some 17, .q (.iaddr 1 none (.t 14) (.t 16)), none, 7⟩⟩,
⟨4, ⟨some 18, .q (.load false 1 (.t 17)), none, 15⟩⟩,
⟨5, ⟨some 19, .q (.mov (.t 1)), none, 0⟩⟩,
⟨6, ⟨some 20, .e (.callf 264 [(.t 19)]), none, 32⟩⟩,
⟨7, ⟨some 21, .q (.bin .xor .scalar (.t 18) (.t 20)), none, 127⟩⟩,
⟨8, ⟨some 22, .q (.iaddr 1 none (.t 14) (.t 16)), none, 255⟩⟩,
⟨9, ⟨none, .e (.store 1 (.t 22) (.t 21)), none, 511⟩⟩]) (
.draw [⟨0, ⟨some 23, .q (.mov (.t 0)), none, 0⟩⟩,
⟨1, ⟨some 24, .q (.nilck (.t 23)), none, 1⟩⟩,
⟨2, ⟨some 25, .q (.faddr 3 (.t 24)), none, 3⟩⟩,
⟨3, ⟨some 26, .q (.load false 1 (.t 25)), none, 7⟩⟩,
⟨4, ⟨some 27, .q (.mov (.t 6)), none, 0⟩⟩,
⟨5, ⟨some 28, .q (.conv .b2s (.t 27)), none, 16⟩⟩,
⟨6, ⟨none, .e (.mapup (.int .i64) (.t 26) (ci 0) (.t 28)), none, 63⟩⟩])))
def a265 : AFunc := ⟨c265, [], false⟩
def c266 : ACode :=
.seq (
.region [Q 0 (.mov (cs []))]) (
.seq (
.region [M 1 (.mkslice 5 1 1 [dc (.int .u8 0)] (ci 128) (ci 128)),
Q 2 (.conv .b2s (.t 1)),
Q 0 (.mov (.t 2))]) (
.ret))
def a266 : AFunc := ⟨c266, [.tmp 0], false⟩
def c267 : ACode :=
.seq (
.region [Q 2 (.mov (cs []))]) (
.seq (
.region [Q 3 (.mov (.t 0)),
E 4 (.callf 266 []),
Q 5 (.mov (.t 0)),
Q 6 (.len .str (.t 5)),
Q 7 (.sslice (.t 4) (some (.t 6)) none),
Q 8 (.bin .add .scalar (.t 3) (.t 7)),
Q 2 (.mov (.t 8))]) (
.ret))
def a267 : AFunc := ⟨c267, [.tmp 2], false⟩
def c268 : ACode :=
.seq (
.region [Q 4 (.mov (cs [])),
Q 5 (.mov (ci 0))]) (
.seq (
.seq (
.region [Q 10 (.mov (.t 0)),
Q 11 (.mov (.t 1)),
E 12 (.callf 311 [(.t 10), (.t 11)]),
Q 6 (.mov (.t 12))]) (
.seq (
.region [Q 13 (.mov (.t 6)),
Q 14 (.bin .neq .scalar (.t 13) (ci 0))]) (
.cond (.t 14) (
.seq (
.region [Q 15 (.mov (.t 6)),
Q 4 (.mov (cs [])),
Q 5 (.mov (.t 15))]) (
.ret)) (
.skip)))) (
.seq (
.seq (
.region [Q 16 (.mov (.t 0)),
Q 17 (.nilck (.t 16)),
Q 18 (.faddr 2 (.t 17)),
Q 19 (.load false 1 (.t 18)),
Q 20 (.len .sl (.t 19)),
Q 21 (.bin .sub .scalar (.t 20) (ci 1)),
Q 7 (.mov (.t 21))]) (
.block 0 (
.loop (
.seq (
.seq (
.region [Q 22 (.mov (.t 7)),
Q 23 (.bin .geq .scalar (.t 22) (ci 0))]) (
.cond (.t 23) (
.skip) (
.exit 0))) (
.seq (
.block 1 (
.seq (
.region [Q 26 (.mov (.t 0)),
Q 27 (.nilck (.t 26)),
Q 28 (.faddr 2 (.t 27)),
Q 29 (.load false 1 (.t 28)),
Q 30 (.mov (.t 7)),
Q 31 (.iaddr 2 none (.t 29) (.t 30)),
Q 32 (.faddr 0 (.t 31)),
Q 33 (.load false 1 (.t 32)),
Q 34 (.mov (.t 1)),
Q 35 (.bin .eql .scalar (.t 33) (.t 34))]) (
.cond (.t 35) (
.seq (
.region [Q 36 (.mov (.t 0)),
Q 37 (.nilck (.t 36)),
Q 38 (.faddr 2 (.t 37)),
Q 39 (.load false 1 (.t 38)),
Q 40 (.mov (.t 7)),
Q 41 (.iaddr 2 none (.t 39) (.t 40)),
Q 42 (.faddr 1 (.t 41)),
Q 43 (.load false 1 (.t 42)),
Q 4 (.mov (.t 43)),
Q 5 (.mov (ci 0))]) (
.ret)) (
.skip)))) (
.region [Q 24 (.mov (.t 7)),
Q 25 (.bin .sub .scalar (.t 24) (ci 1)),
Q 7 (.mov (.t 25))])))))) (
.seq (
.region [Q 45 (.mov (.t 0)),
Q 46 (.nilck (.t 45)),
Q 47 (.faddr 1 (.t 46)),
Q 48 (.load false 1 (.t 47)),
Q 49 (.mov (.t 1)),
Q 50 (.lookup (.int .i64) (.one (dc (.str []))) true (.t 48) (.t 49)),
Q 44 (.mov (.t 50)),
Q 51 (.extract 0 (.t 44)),
Q 52 (.extract 1 (.t 44)),
Q 8 (.mov (.t 51)),
Q 9 (.mov (.t 52))]) (
.seq (
.seq (
.region [Q 53 (.mov (.t 9)),
Q 54 (.un .not (.t 53))]) (
.cond (.t 54) (
.seq (
.region [E 55 (.callf 192 []),
Q 4 (.mov (.t 55)),
Q 5 (.mov (ci 0))]) (
.ret)) (
.skip))) (
.seq (
.region [Q 56 (.mov (.t 8)),
Q 4 (.mov (.t 56)),
Q 5 (.mov (ci 0))]) (
.ret))))))
def a268 : AFunc := ⟨c268, [.tmp 4, .tmp 5], false⟩
def c269 : ACode :=
.seq (
.region [Q 2 (.mov (cs []))]) (
.seq (
.block 0 (
.loop (
.seq (
.seq (
.region [Q 3 (.mov (.t 0)),
Q 4 (.bin .neq .scalar (.t 3) (cs [])),
Q 5 (.mov (.t 4)),
⟨some 6, .q (.mov (.t 0)), some (5, true), 0⟩,
⟨some 7, .q (.mov (.t 0)), some (5, true), 0⟩,
⟨some 8, .q (.len .str (.t 7)), some (5, true), 0⟩,
⟨some 9, .q (.bin .sub .scalar (.t 8) (ci 1)), some (5, true), 0⟩,
⟨some 10, .q (.sidx (.t 6) (.t 9)), some (5, true), 0⟩,
⟨some 11, .q (.bin .eql .scalar (.t 10) (.c (.one (dc (.int .u8 0))))), some (5, true), 0⟩,
Q 12 (.pick (.t 5) (.t 11) (cb false))]) (
.cond (.t 12) (
.skip) (
.exit 0))) (
.block 1 (
.region [Q 13 (.mov (.t 0)),
Q 14 (.mov (.t 0)),
Q 15 (.len .str (.t 14)),
Q 16 (.bin .sub .scalar (.t 15) (ci 1)),
Q 17 (.sslice (.t 13) none (some (.t 16))),
Q 0 (.mov (.t 17))]))))) (
.seq (
.region [Q 18 (.mov (.t 0)),
Q 2 (.mov (.t 18))]) (
.ret)))
def a269 : AFunc := ⟨c269, [.tmp 2], false⟩
def c270 : ACode :=
.seq (
.region [Q 2 (.mov (ci 0))]) (
.seq (
.block 0 (
.seq (
.region [Q 4 (.mov (.t 0)),
Q 5 (.bin .eql .ptr (.t 4) (.c (.one (dc (.nilp))))),
Q 6 (.mov (.t 5)),
⟨some 7, .q (.mov (.t 0)), some (6, false), 0⟩,
⟨some 8, .q (.nilck (.t 7)), some (6, false), 0⟩,
⟨some 9, .q (.faddr 0 (.t 8)), some (6, false), 0⟩,
⟨some 10, .q (.load false 1 (.t 9)), some (6, false), 0⟩,
⟨some 11, .q (.bin .eql .ptr (.t 10) (.c (.one (dc (.nilp))))), some (6, false), 0⟩,
Q 12 (.pick (.t 6) (cb true) (.t 11)),
Q 3 (.mov (.t 12))]) (
.cond (.t 3) (
.seq (
.region [Q 2 (.mov (ci 13))]) (
.ret)) (
.seq (
.region [Q 14 (.mov (.t 0)),
Q 15 (.nilck (.t 14)),
Q 16 (.faddr 7 (.t 15)),
Q 17 (.load false 1 (.t 16)),
Q 13 (.mov (.t 17))]) (
.cond (.t 13) (
.seq (
.region [Q 2 (.mov (ci 6))]) (
.ret)) (
.skip)))))) (
.seq (
.region [Q 2 (.mov (ci 0))]) (
.ret)))
def a270 : AFunc := ⟨c270, [.tmp 2], false⟩
def c271 : ACode :=
.seq (
.region [Q 2 (.mov (.c (.one (dc (.sl [] true)))))]) (
.seq (
.region [Q 3 (.mov (.c (.one (dc (.sl [] true)))))]) (
.seq (
.block 0 (
.loop (
.seq (
.seq (
.region [Q 4 (.mov (.t 0)),
Q 5 (.len .str (.t 4)),
Q 6 (.bin .gtr .scalar (.t 5) (ci 100))]) (
.cond (.t 6) (
.skip) (
.exit 0))) (
.block 1 (
.seq (
.region [Q 7 (.mov (.t 3)),
Q 8 (.mov (.t 0)),
Q 9 (.sslice (.t 8) none (some (ci 100))),
M 10 (.bslice 9 1 1 [dc (.str [])] [(0, 1, (.t 9))]),
E 11 (.append 9 1 16 (.t 7) (.t 10)),
Q 3 (.mov (.t 11))]) (
.region [Q 12 (.mov (.t 0)),
Q 13 (.sslice (.t 12) (some (ci 100)) none),
Q 0 (.mov (.t 13))])))))) (
.seq (
.region [Q 14 (.mov (.t 3)),
Q 15 (.mov (.t 0)),
M 16 (.bslice 9 1 1 [dc (.str [])] [(0, 1, (.t 15))]),
E 17 (.append 9 1 16 (.t 14) (.t 16)),
Q 2 (.mov (.t 17))]) (
.ret))))
def a271 : AFunc := ⟨c271, [.tmp 2], false⟩
def c272 : ACode :=
.seq (
.region [Q 4 (.mov (ci 0))]) (
.seq (
.region [Q 5 (.mov (.t 0)),
Q 6 (.mov (.t 0)),
Q 7 (.nilck (.t 6)),
Q 8 (.faddr 7 (.t 7)),
Q 9 (.load false 1 (.t 8)),
Q 10 (.mov (.t 9)),
⟨some 11, .q (.mov (.t 1)), some (10, false), 0⟩,
⟨some 12, .q (.bin .neq .scalar (.t 11) (ci 0)), some (10, false), 0⟩,
Q 13 (.pick (.t 10) (cb true) (.t 12)),
Q 14 (.nilck (.t 5)),
Q 15 (.faddr 7 (.t 14)),
⟨none, .e (.store 1 (.t 15) (.t 13)), none, 0⟩]) (
.seq (
.region [Q 16 (.mov (.t 1)),
Q 4 (.mov (.t 16))]) (
.ret)))
def a272 : AFunc := ⟨c272, [.tmp 4], false⟩
def c273 : ACode :=
.seq (
.region [Q 6 (.mov (ci 0))]) (
.seq (
.region [Q 8 (.mov (.t 0)),
Q 9 (.mov (.t 1)),
E 10 (.callf 311 [(.t 8), (.t 9)]),
Q 7 (.mov (.t 10))]) (
.seq (
.block 0 (
.seq (
.region [Q 12 (.mov (.t 7)),
Q 13 (.bin .neq .scalar (.t 12) (ci 0)),
Q 11 (.mov (.t 13))]) (
.cond (.t 11) (
.seq (
.region [Q 14 (.mov (.t 7)),
Q 6 (.mov (.t 14))]) (
.ret)) (
.seq (
.region [Q 16 (.mov (.t 2)),
Q 17 (.len .str (.t 16)),
Q 18 (.bin .gtr .scalar (.t 17) (ci 128)),
Q 15 (.mov (.t 18))]) (
.cond (.t 15) (
.seq (
.region [Q 6 (.mov (ci 19))]) (
.ret)) (
.seq (
.region [Q 20 (.mov (.t 0)),
E 21 (.callf 312 [(.t 20)]),
Q 19 (.mov (.t 21))]) (
.cond (.t 19) (
.seq (
.region [Q 6 (.mov (ci 6))]) (
.ret)) (
.skip)))))))) (
.seq (
.region [Q 22 (.mov (.t 0)),
Q 23 (.nilck (.t 22)),
Q 24 (.faddr 6 (.t 23)),
Q 25 (.load false 1 (.t 24)),
Q 26 (.bin .sub .scalar (.t 25) (ci 1)),
Q 27 (.nilck (.t 22)),
Q 28 (.faddr 6 (.t 27)),
⟨none, .e (.store 1 (.t 28) (.t 26)), none, 0⟩]) (
.seq (
.draw [⟨0, ⟨some 29, .q (.mov (.t 0)), none, 0⟩⟩,
⟨1, ⟨some 30, .q (.mov (.t 0)), none, 0⟩⟩,
⟨2, ⟨some 31, .q (.nilck (.t 30)), none, 2⟩⟩,
⟨3, ⟨some 32, .q (.faddr 2 (.t 31)), none, 6⟩⟩,
⟨4, ⟨some 33, .q (.load false 1 (.t 32)), none, 14⟩⟩,
⟨5, ⟨some 34, .q (.mov (.t 1)), none, 0⟩⟩,
⟨6, ⟨some 35, .q (.mov (.t 2)), none, 0⟩⟩,
⟨8, ⟨some 37, .q (.mov (.t 2)), none, 0⟩⟩,
⟨9, ⟨some 38, .q (.len .str (.t 37)), none, 256⟩⟩,
⟨7, ⟨some 36, .e (.callf 192 []), none, 0⟩⟩,
⟨10, ⟨some 39, .q (.sslice (.t 36) (some (.t 38)) none), none, 896⟩⟩,
⟨11, ⟨some 40, .q (.bin .add .scalar (.t 35) (.t 39)), none, 1984⟩⟩,
⟨12, ⟨some 41, .q (.build [dc (.int .i64 0), dc (.str [])] [(0, 1, (.t 34)), (1, 1, (.t 40))]), none, 4064⟩⟩,
⟨13, ⟨some 42, .m (.bslice 219 2 1 [dc (.int .i64 0), dc (.str [])] [(0, 2, (.t 41))]), none, 8160⟩⟩,
⟨14, ⟨some 43, .e (.append 219 2 24 (.t 33) (.t 42)), none, 16382⟩⟩,
⟨15, ⟨some 44, .q (.nilck (.t 29)), none, 32767⟩⟩,
⟨16, ⟨some 45, .q (.faddr 2 (.t 44)), none, 65535⟩⟩,
⟨17, ⟨none, .e (.store 1 (.t 45) (.t 43)), none, 131071⟩⟩]) (
.seq (
.region [Q 46 (.mov (.t 0)),
Q 47 (.nilck (.t 46)),
Q 48 (.faddr 3 (.t 47)),
Q 49 (.load false 1 (.t 48)),
Q 50 (.bin .add .scalar (.t 49) (ci 1)),
Q 51 (.nilck (.t 46)),
Q 52 (.faddr 3 (.t 51)),
⟨none, .e (.store 1 (.t 52) (.t 50)), none, 0⟩]) (
.seq (
.region [Q 6 (.mov (ci 0))]) (
.ret)))))))
def a273 : AFunc := ⟨c273, [.tmp 6], false⟩
def c274 : ACode :=
.seq (
.region [Q 2 (.mov (cs []))]) (
.seq (
.seq (
.region [Q 3 (.mov (.t 0)),
Q 4 (.len .str (.t 3)),
Q 5 (.bin .gtr .scalar (.t 4) (ci 123))]) (
.cond (.t 5) (
.seq (
.region [Q 2 (.mov (cs []))]) (
.ret)) (
.skip))) (
.seq (
.draw [⟨0, ⟨some 6, .q (.mov (.t 0)), none, 0⟩⟩,
⟨1, ⟨some 7, .q (.len .str (.t 6)), none, 1⟩⟩,
⟨2, ⟨some 8, .q (.conv (.int .u8) (.t 7)), none, 3⟩⟩,
⟨3, ⟨some 9, .m (.bslice 5 1 1 [dc (.int .u8 0)] [(0, 1, (.t 8))]), none, 7⟩⟩,
⟨4, ⟨some 10, .q (.conv .b2s (.t 9)), none, 15⟩⟩,
⟨5, ⟨some 11, .q (.mov (.t 0)), none, 0⟩⟩,
⟨6, ⟨some 12, .e (.callf 167 [(.t 11)]), none, 32⟩⟩,
⟨7, ⟨some 13, .q (.bin .add .scalar (.t 10) (.t 12)), none, 127⟩⟩,
⟨8, ⟨some 2, .q (.mov (.t 13)), none, 255⟩⟩]) (
.ret)))
def a274 : AFunc := ⟨c274, [.tmp 2], false⟩
def c275 : ACode :=
.seq (
.region [Q 6 (.mov (cs []))]) (
.seq (
.region [Q 7 (.mov (.t 0)),
E 8 (.callf 310 [(.t 7)]),
Q 9 (.bin .add .scalar (cs [76]) (.t 8)),
Q 10 (.mov (.t 1)),
E 11 (.callf 310 [(.t 10)]),
Q 12 (.bin .add .scalar (.t 9) (.t 11)),
Q 13 (.mov (.t 2)),
E 14 (.callf 310 [(.t 13)]),
Q 15 (.bin .add .scalar (.t 12) (.t 14)),
Q 6 (.mov (.t 15))]) (
.ret))
def a275 : AFunc := ⟨c275, [.tmp 6], false⟩
def c276 : ACode :=
.seq (
.region [Q 2 (.mov (cs []))]) (
.seq (
.region [Q 3 (.mov (.t 0)),
E 4 (.callf 167 [(.t 3)]),
Q 5 (.mov (.t 0)),
Q 6 (.len .str (.t 5)),
Q 7 (.sslice (.t 4) (some (.t 6)) none),
Q 2 (.mov (.t 7))]) (
.ret))
def a276 : AFunc := ⟨c276, [.tmp 2], false⟩
def c277 : ACode :=
.seq (
.region [Q 2 (.mov (ci 0))]) (
.seq (
.block 0 (
.seq (
.region [Q 6 (.mov (.t 0)),
E 7 (.callf 134 [(.t 6)]),
Q 8 (.bin .eql .scalar (.t 7) (ci 0)),
Q 5 (.mov (.t 8))]) (
.cond (.t 5) (
.seq (
.region [Q 2 (.mov (ci 13))]) (
.ret)) (
.seq (
.region [Q 10 (.mov (.t 0)),
E 11 (.callf 312 [(.t 10)]),
Q 9 (.mov (.t 11))]) (
.cond (.t 9) (
.seq (
.region [Q 2 (.mov (ci 6))]) (
.ret)) (
.skip)))))) (
.seq (
.region [Q 12 (.mov (.t 0)),
Q 13 (.nilck (.t 12)),
Q 14 (.faddr 6 (.t 13)),
Q 15 (.load false 1 (.t 14)),
Q 16 (.bin .sub .scalar (.t 15) (ci 1)),
Q 17 (.nilck (.t 12)),
Q 18 (.faddr 6 (.t 17)),
⟨none, .e (.store 1 (.t 18) (.t 16)), none, 0⟩]) (
.seq (
.seq (
.region [Q 19 (.mov (.t 0)),
Q 20 (.nilck (.t 19)),
Q 21 (.faddr 2 (.t 20)),
Q 22 (.load false 1 (.t 21)),
Q 23 (.len .sl (.t 22)),
Q 24 (.mov (ci 0))]) (
.block 1 (
.loop (
.seq (
.region [Q 25 (.bin .lss .scalar (.t 24) (.t 23))]) (
.seq (
.cond (.t 25) (
.skip) (
.exit 1)) (
.seq (
.block 2 (
.seq (
.region [Q 26 (.iaddr 2 none (.t 22) (.t 24)),
Q 27 (.load true 2 (.t 26)),
M 4 (.alloc 219 2 [dc (.int .i64 0), dc (.str [])]),
⟨none, .e (.store 2 (.t 4) (.t 27)), none, 0⟩]) (
.region [Q 28 (.mov (.t 0)),
Q 29 (.load true 2 (.t 4)),
E 30 (.callf 135 [(.t 28), (.t 29)])]))) (
.region [Q 31 (.bin .add .scalar (.t 24) (ci 1)),
Q 24 (.mov (.t 31))]))))))) (
.seq (
.region [Q 32 (.mov (.t 0)),
Q 33 (.nilck (.t 32)),
Q 34 (.faddr 2 (.t 33)),
⟨none, .e (.store 1 (.t 34) (.c (.one (dc (.sl [] true))))), none, 0⟩]) (
.seq (
.region [Q 35 (.mov (.t 0)),
Q 36 (.nilck (.t 35)),
Q 37 (.faddr 4 (.t 36)),
Q 38 (.load false 1 (.t 37)),
Q 39 (.bin .add .scalar (.t 38) (ci 1)),
Q 40 (.nilck (.t 35)),
Q 41 (.faddr 4 (.t 40)),
⟨none, .e (.store 1 (.t 41) (.t 39)), none, 0⟩]) (
.seq (
.region [Q 2 (.mov (ci 0))]) (
.ret)))))))
def a277 : AFunc := ⟨c277, [.tmp 2], false⟩
def c278 : ACode :=
.seq (
.region [Q 2 (.mov (ci 0))]) (
.seq (
.seq (
.region [Q 5 (.mov (.t 0)),
E 6 (.callf 270 [(.t 5)]),
Q 3 (.mov (.t 6))]) (
.seq (
.region [Q 7 (.mov (.t 3)),
Q 8 (.bin .neq .scalar (.t 7) (ci 0))]) (
.cond (.t 8) (
.seq (
.region [Q 9 (.mov (.t 3)),
Q 2 (.mov (.t 9))]) (
.ret)) (
.skip)))) (
.seq (
.seq (
.region [Q 10 (.mov (.t 0)),
Q 11 (.mov (.t 0)),
Q 12 (.mov (.t 0)),
Q 13 (.nilck (.t 12)),
Q 14 (.faddr 3 (.t 13)),
Q 15 (.load false 1 (.t 14)),
Q 16 (.bin .add .scalar (.t 15) (ci 1)),
E 17 (.callf 260 [(.t 11), (.t 16)]),
E 18 (.callf 272 [(.t 10), (.t 17)]),
Q 4 (.mov (.t 18))]) (
.seq (
.region [Q 19 (.mov (.t 4)),
Q 20 (.bin .neq .scalar (.t 19) (ci 0))]) (
.cond (.t 20) (
.seq (
.region [Q 21 (.mov (.t 4)),
Q 2 (.mov (.t 21))]) (
.ret)) (
.skip)))) (
.seq (
.region [Q 22 (.mov (.t 0)),
Q 23 (.mov (.t 0)),
Q 24 (.nilck (.t 22)),
Q 25 (.faddr 5 (.t 24)),
⟨none, .e (.store 1 (.t 25) (ci 0)), none, 0⟩,
Q 26 (.nilck (.t 23)),
Q 27 (.faddr 6 (.t 26)),
⟨none, .e (.store 1 (.t 27) (.c (.one (dc (.sl [] true))))), none, 0⟩]) (
.seq (
.region [Q 2 (.mov (ci 0))]) (
.ret)))))
def a278 : AFunc := ⟨c278, [.tmp 2], false⟩
def c279 : ACode :=
.seq (
.region [Q 2 (.mov (.c (.one (dc (.sl [] true)))))]) (
.seq (
.seq (
.region [Q 7 (.mov (.t 0)),
E 8 (.callf 200 [(.t 7)]),
Q 9 (.un .not (.t 8))]) (
.cond (.t 9) (
.seq (
.region [Q 2 (.mov (.c (.one (dc (.sl [] true)))))]) (
.ret)) (
.skip))) (
.seq (
.region [Q 3 (.mov (.c (.one (dc (.sl [] true)))))]) (
.seq (
.seq (
.region [Q 10 (.mov (.t 0)),
E 11 (.callf 195 [(.t 10)]),
Q 12 (.mov (ci 0))]) (
.block 0 (
.loop (
.seq (
.region [Q 13 (.bin .lss .scalar (.t 12) (.t 11))]) (
.seq (
.cond (.t 13) (
.skip) (
.exit 0)) (
.seq (
.block 1 (
.seq (
.region [Q 14 (.mov (.t 12)),
Q 4 (.mov (.t 14))]) (
.seq (
.region [Q 16 (.mov (.t 0)),
Q 17 (.nilck (.t 16)),
Q 18 (.faddr 3 (.t 17)),
Q 19 (.load false 1 (.t 18)),
Q 20 (.mov (.t 4)),
Q 21 (.lookup (.int .i64) (.one (dc (.str []))) true (.t 19) (.t 20)),
Q 15 (.mov (.t 21)),
Q 22 (.extract 0 (.t 15)),
Q 23 (.extract 1 (.t 15)),
Q 5 (.mov (.t 22)),
Q 6 (.mov (.t 23))]) (
.seq (
.region [Q 24 (.mov (.t 6))]) (
.cond (.t 24) (
.region [Q 25 (.mov (.t 3)),
Q 26 (.mov (.t 4)),
M 27 (.bslice 3 1 1 [dc (.int .i64 0)] [(0, 1, (.t 26))]),
E 28 (.append 3 1 8 (.t 25) (.t 27)),
Q 3 (.mov (.t 28))]) (
.skip)))))) (
.region [Q 29 (.bin .add .scalar (.t 12) (ci 1)),
Q 12 (.mov (.t 29))]))))))) (
.seq (
.region [Q 30 (.mov (.t 3)),
Q 2 (.mov (.t 30))]) (
.ret)))))
def a279 : AFunc := ⟨c279, [.tmp 2], false⟩
def c280 : ACode :=
.seq (
.region [Q 4 (.mov (ci 0))]) (
.seq (
.region [Q 5 (.mov (.t 0)),
Q 6 (.conv (.int .i64) (.t 5)),
Q 7 (.bin .mul .scalar (ci 256) (.t 6)),
Q 8 (.mov (.t 1)),
Q 9 (.conv (.int .i64) (.t 8)),
Q 10 (.bin .add .scalar (.t 7) (.t 9)),
Q 4 (.mov (.t 10))]) (
.ret))
def a280 : AFunc := ⟨c280, [.tmp 4], false⟩
def c281 : ACode :=
.seq (
.region [Q 3 (.mov (cs []))]) (
.seq (
.region [Q 4 (.faddr 0 (.t 1)),
Q 5 (.load false 1 (.t 4)),
Q 6 (.bin .add .scalar (.t 5) (ci 1)),
Q 7 (.conv (.int .u8) (.t 6)),
M 8 (.bslice 5 1 1 [dc (.int .u8 0)] [(0, 1, (.t 7))]),
Q 9 (.conv .b2s (.t 8)),
Q 10 (.mov (.t 0)),
Q 11 (.bin .add .scalar (.t 9) (.t 10)),
Q 3 (.mov (.t 11))]) (
.ret))
def a281 : AFunc := ⟨c281, [.tmp 3], true⟩
def c282 : ACode :=
.seq (
.region [Q 2 (.mov (cs []))]) (
.seq (
.region [M 5 (.mkslice 5 1 1 [dc (.int .u8 0)] (ci 8) (ci 8)),
Q 3 (.mov (.t 5))]) (
.seq (
.seq (
.region [Q 6 (.mov (.t 3)),
Q 7 (.len .sl (.t 6)),
Q 8 (.mov (ci 0))]) (
.block 0 (
.loop (
.seq (
.region [Q 9 (.bin .lss .scalar (.t 8) (.t 7))]) (
.seq (
.cond (.t 9) (
.skip) (
.exit 0)) (
.seq (
.block 1 (
.seq (
.region [Q 10 (.mov (.t 8)),
Q 4 (.mov (.t 10))]) (
.region [Q 11 (.mov (.t 3)),
Q 12 (.mov (.t 4)),
Q 13 (.mov (.t 0)),
Q 14 (.mov (.t 4)),
Q 15 (.bin .sub .scalar (ci 7) (.t 14)),
Q 16 (.bin .mul .scalar (ci 8) (.t 15)),
Q 17 (.bin .shr .scalar (.t 13) (.t 16)),
Q 18 (.conv (.int .u8) (.t 17)),
Q 19 (.iaddr 1 none (.t 11) (.t 12)),
⟨none, .e (.store 1 (.t 19) (.t 18)), none, 0⟩]))) (
.region [Q 20 (.bin .add .scalar (.t 8) (ci 1)),
Q 8 (.mov (.t 20))]))))))) (
.seq (
.region [Q 21 (.mov (.t 3)),
Q 22 (.conv .b2s (.t 21)),
Q 2 (.mov (.t 22))]) (
.ret))))
def a282 : AFunc := ⟨c282, [.tmp 2], true⟩
def c283 : ACode :=
.seq (
.region [Q 2 (.mov (.c (.one (dc (.int .u64 0)))))]) (
.seq (
.seq (
.region [Q 3 (.mov (.t 0)),
Q 4 (.bin .and .scalar (.t 3) (.c (.one (dc (.int .u64 9223372036854775808))))),
Q 5 (.bin .gtr .scalar (.t 4) (.c (.one (dc (.int .u64 0)))))]) (
.cond (.t 5) (
.seq (
.region [Q 6 (.mov (.t 0)),
Q 7 (.un .xor (.t 6)),
Q 2 (.mov (.t 7))]) (
.ret)) (
.skip))) (
.seq (
.region [Q 8 (.mov (.t 0)),
Q 9 (.bin .or .scalar (.t 8) (.c (.one (dc (.int .u64 9223372036854775808))))),
Q 2 (.mov (.t 9))]) (
.ret)))
def a283 : AFunc := ⟨c283, [.tmp 2], true⟩
def c284 : ACode :=
.seq (
.region [Q 2 (.mov (cs []))]) (
.seq (
.region [Q 5 (.mov (.t 0)),
Q 6 (.len .str (.t 5)),
Q 7 (.bin .add .scalar (.t 6) (ci 2)),
M 8 (.mkslice 5 1 1 [dc (.int .u8 0)] (ci 0) (.t 7)),
Q 3 (.mov (.t 8))]) (
.seq (
.seq (
.region [Q 9 (.mov (.t 0)),
Q 10 (.len .str (.t 9)),
Q 11 (.mov (ci 0))]) (
.block 0 (
.loop (
.seq (
.region [Q 12 (.bin .lss .scalar (.t 11) (.t 10))]) (
.seq (
.cond (.t 12) (
.skip) (
.exit 0)) (
.seq (
.block 1 (
.seq (
.region [Q 13 (.mov (.t 11)),
Q 4 (.mov (.t 13))]) (
.seq (
.seq (
.region [Q 14 (.mov (.t 0)),
Q 15 (.mov (.t 4)),
Q 16 (.sidx (.t 14) (.t 15)),
Q 17 (.bin .eql .scalar (.t 16) (.c (.one (dc (.int .u8 0)))))]) (
.cond (.t 17) (
.seq (
.region [Q 18 (.mov (.t 3)),
E 19 (.append 5 1 1 (.t 18) (cs [0, 255])),
Q 3 (.mov (.t 19))]) (
.exit 1)) (
.skip))) (
.region [Q 20 (.mov (.t 3)),
Q 21 (.mov (.t 0)),
Q 22 (.mov (.t 4)),
Q 23 (.sidx (.t 21) (.t 22)),
M 24 (.bslice 5 1 1 [dc (.int .u8 0)] [(0, 1, (.t 23))]),
E 25 (.append 5 1 1 (.t 20) (.t 24)),
Q 3 (.mov (.t 25))])))) (
.region [Q 26 (.bin .add .scalar (.t 11) (ci 1)),
Q 11 (.mov (.t 26))]))))))) (
.seq (
.region [Q 27 (.mov (.t 3)),
E 28 (.append 5 1 1 (.t 27) (cs [0, 1])),
Q 29 (.conv .b2s (.t 28)),
Q 2 (.mov (.t 29))]) (
.ret))))
def a284 : AFunc := ⟨c284, [.tmp 2], true⟩
def c285 : ACode :=
.seq (
.region [Q 2 (.mov (cb false))]) (
.seq (
.region [Q 3 (.mov (.t 0)),
Q 4 (.mov (.t 0)),
Q 5 (.bin .neq .scalar (.t 3) (.t 4)),
Q 2 (.mov (.t 5))]) (
.ret))
def a285 : AFunc := ⟨c285, [.tmp 2], false⟩
def c287 : ACode :=
.seq (
.region [⟨some 7, .recov, none, 0⟩]) (
.block 0 (
.seq (
.region [Q 9 (.bin .eql .iface (.t 7) (.c (.one (dc (.nili)))))]) (
.cond (.t 9) (
.region [Q 3 (.mov (.t 7))]) (
.seq (
.region [Q 10 (.tas 317 (.agg [dc (.int .i64 0)]) true (.t 7)),
Q 11 (.extract 1 (.t 10)),
Q 12 (.extract 0 (.t 10))]) (
.cond (.t 11) (
.seq (
.region [M 4 (.alloc 317 1 [dc (.int .i64 0)]),
⟨none, .e (.store 1 (.t 4) (.t 12)), none, 0⟩]) (
.seq (
.region [Q 5 (.mov (.c (.one (dc (.int .u64 0)))))]) (
.draw [⟨0, ⟨some 13, .q (.load false 1 (.t 2)), none, 0⟩⟩,
⟨1, ⟨some 14, .q (.load false 1 (.t 2)), none, 0⟩⟩,
⟨2, ⟨some 15, .q (.mov (.t 5)), none, 0⟩⟩,
⟨3, ⟨some 16, .q (.load false 1 (.t 0)), none, 0⟩⟩,
⟨4, ⟨some 17, .q (.faddr 0 (.t 4)), none, 0⟩⟩,
⟨5, ⟨some 18, .q (.load false 1 (.t 17)), none, 16⟩⟩,
⟨6, ⟨none, .e (.store 1 (.t 1) (.t 15)), none, 15⟩⟩,
⟨7, ⟨some 19, .q (.nilck (.t 13)), none, 79⟩⟩,
⟨8, ⟨some 20, .q (.faddr 1 (.t 19)), none, 207⟩⟩,
⟨9, ⟨none, .e (.store 1 (.t 20) (.t 16)), none, 463⟩⟩,
⟨10, ⟨some 21, .q (.nilck (.t 14)), none, 1023⟩⟩,
⟨11, ⟨some 22, .q (.faddr 2 (.t 21)), none, 2047⟩⟩,
⟨12, ⟨none, .e (.store 1 (.t 22) (.t 18)), none, 4095⟩⟩]))) (
.seq (
.region [Q 6 (.mov (.t 7))]) (
.region [Q 8 (.mov (.t 6)),
⟨none, .e (.panic (.t 8)), none, 0⟩])))))))
def a287 : AFunc := ⟨c287, [], false⟩
def c288 : ACode :=
.seq (
.region [Q 2 (.mov (.c (.one (dc (.int .u8 0)))))]) (
.seq (
.seq (
.draw [⟨0, ⟨some 3, .q (.mov (.t 0)), none, 0⟩⟩,
⟨1, ⟨some 4, .q (.nilck (.t 3)), none, 1⟩⟩,
⟨2, ⟨some 5, .q (.faddr 1 (.t 4)), none, 3⟩⟩,
⟨3, ⟨some 6, .q (.load false 1 (.t 5)), none, 7⟩⟩,
⟨4, ⟨some 7, .q (.mov (.t 0)), none, 0⟩⟩,
⟨5, ⟨some 8, .q (.nilck (.t 7)), none, 16⟩⟩,
⟨6, ⟨some 9, .q (.faddr 0 (.t 8)), none, 48⟩⟩,
⟨7, ⟨some 10, .q (.load false 1 (.t 9)), none, 112⟩⟩,
⟨8, ⟨some 11, .q (.len .str (.t 10)), none, 240⟩⟩,
⟨9, ⟨some 12, .q (.bin .geq .scalar (.t 6) (.t 11)), none, 511⟩⟩]) (
.cond (.t 12) (
.region [Q 13 (.build [dc (.int .i64 0)] [(0, 1, (ci 8))]),
Q 14 (.mkif 317 (.t 13)),
⟨none, .e (.panic (.t 14)), none, 0⟩]) (
.skip))) (
.seq (
.region [Q 15 (.mov (.t 0)),
Q 16 (.nilck (.t 15)),
Q 17 (.faddr 1 (.t 16)),
Q 18 (.load false 1 (.t 17)),
Q 19 (.bin .add .scalar (.t 18) (ci 1)),
Q 20 (.nilck (.t 15)),
Q 21 (.faddr 1 (.t 20)),
⟨none, .e (.store 1 (.t 21) (.t 19)), none, 0⟩]) (
.seq (
.draw [⟨0, ⟨some 22, .q (.mov (.t 0)), none, 0⟩⟩,
⟨1, ⟨some 23, .q (.nilck (.t 22)), none, 1⟩⟩,
⟨2, ⟨some 24, .q (.faddr 0 (.t 23)), none, 3⟩⟩,
⟨3, ⟨some 25, .q (.load false 1 (.t 24)), none, 7⟩⟩,
⟨4, ⟨some 26, .q (.mov (.t 0)), none, 0⟩⟩,
⟨5, ⟨some 27, .q (.nilck (.t 26)), none, 16⟩⟩,
⟨6, ⟨some 28, .q (.faddr 1 (.t 27)), none, 48⟩⟩,
⟨7, ⟨some 29, .q (.load false 1 (.t 28)), none, 112⟩⟩,
⟨8, ⟨some 30, .q (.bin .sub .scalar (.t 29) (ci 1)), none, 240⟩⟩,
⟨9, ⟨some 31, .q (.sidx (.t 25) (.t 30)), none, 511⟩⟩,
⟨10, ⟨some 2, .q (.mov (.t 31)), none, 1023⟩⟩]) (
.ret))))
def a288 : AFunc := ⟨c288, [.tmp 2], false⟩
def c289 : ACode :=
.seq (
.region [⟨some 7, .recov, none, 0⟩]) (
.block 0 (
.seq (
.region [Q 9 (.bin .eql .iface (.t 7) (.c (.one (dc (.nili)))))]) (
.cond (.t 9) (
.region [Q 3 (.mov (.t 7))]) (
.seq (
.region [Q 10 (.tas 317 (.agg [dc (.int .i64 0)]) true (.t 7)),
Q 11 (.extract 1 (.t 10)),
Q 12 (.extract 0 (.t 10))]) (
.cond (.t 11) (
.seq (
.region [M 4 (.alloc 317 1 [dc (.int .i64 0)]),
⟨none, .e (.store 1 (.t 4) (.t 12)), none, 0⟩]) (
.seq (
.region [Q 5 (.mov (cs []))]) (
.draw [⟨0, ⟨some 13, .q (.load false 1 (.t 2)), none, 0⟩⟩,
⟨1, ⟨some 14, .q (.load false 1 (.t 2)), none, 0⟩⟩,
⟨2, ⟨some 15, .q (.mov (.t 5)), none, 0⟩⟩,
⟨3, ⟨some 16, .q (.load false 1 (.t 0)), none, 0⟩⟩,
⟨4, ⟨some 17, .q (.faddr 0 (.t 4)), none, 0⟩⟩,
⟨5, ⟨some 18, .q (.load false 1 (.t 17)), none, 16⟩⟩,
⟨6, ⟨none, .e (.store 1 (.t 1) (.t 15)), none, 15⟩⟩,
⟨7, ⟨some 19, .q (.nilck (.t 13)), none, 79⟩⟩,
⟨8, ⟨some 20, .q (.faddr 1 (.t 19)), none, 207⟩⟩,
⟨9, ⟨none, .e (.store 1 (.t 20) (.t 16)), none, 463⟩⟩,
⟨10, ⟨some 21, .q (.nilck (.t 14)), none, 1023⟩⟩,
⟨11, ⟨some 22, .q (.faddr 2 (.t 21)), none, 2047⟩⟩,
⟨12, ⟨none, .e (.store 1 (.t 22) (.t 18)), none, 4095⟩⟩]))) (
.seq (
.region [Q 6 (.mov (.t 7))]) (
.region [Q 8 (.mov (.t 6)),
⟨none, .e (.panic (.t 8)), none, 0⟩])))))))
def a289 : AFunc := ⟨c289, [], false⟩
def c290 : ACode :=
.seq (
.region [⟨some 7, .recov, none, 0⟩]) (
.block 0 (
.seq (
.region [Q 9 (.bin .eql .iface (.t 7) (.c (.one (dc (.nili)))))]) (
.cond (.t 9) (
.region [Q 3 (.mov (.t 7))]) (
.seq (
.region [Q 10 (.tas 317 (.agg [dc (.int .i64 0)]) true (.t 7)),
Q 11 (.extract 1 (.t 10)),
Q 12 (.extract 0 (.t 10))]) (
.cond (.t 11) (
.seq (
.region [M 4 (.alloc 317 1 [dc (.int .i64 0)]),
⟨none, .e (.store 1 (.t 4) (.t 12)), none, 0⟩]) (
.seq (
.region [Q 5 (.mov (.c (.one (dc (.sl [] true)))))]) (
.draw [⟨0, ⟨some 13, .q (.load false 1 (.t 2)), none, 0⟩⟩,
⟨1, ⟨some 14, .q (.load false 1 (.t 2)), none, 0⟩⟩,
⟨2, ⟨some 15, .q (.mov (.t 5)), none, 0⟩⟩,
⟨3, ⟨some 16, .q (.load false 1 (.t 0)), none, 0⟩⟩,
⟨4, ⟨some 17, .q (.faddr 0 (.t 4)), none, 0⟩⟩,
⟨5, ⟨some 18, .q (.load false 1 (.t 17)), none, 16⟩⟩,
⟨6, ⟨none, .e (.store 1 (.t 1) (.t 15)), none, 15⟩⟩,
⟨7, ⟨some 19, .q (.nilck (.t 13)), none, 79⟩⟩,
⟨8, ⟨some 20, .q (.faddr 1 (.t 19)), none, 207⟩⟩,
⟨9, ⟨none, .e (.store 1 (.t 20) (.t 16)), none, 463⟩⟩,
⟨10, ⟨some 21, .q (.nilck (.t 14)), none, 1023⟩⟩,
⟨11, ⟨some 22, .q (.faddr 2 (.t 21)), none, 2047⟩⟩,
⟨12, ⟨none, .e (.store 1 (.t 22) (.t 18)), none, 4095⟩⟩]))) (
.seq (
.region [Q 6 (.mov (.t 7))]) (
.region [Q 8 (.mov (.t 6)),
⟨none, .e (.panic (.t 8)), none, 0⟩])))))))
def a290 : AFunc := ⟨c290, [], false⟩
def c291 : ACode :=
.seq (
.region [M 2 (.alloc 128 4 [dc (.int .i64 0), dc (.int .i64 0), dc (.int .u64 0), dc (.str [])])]) (
.seq (
.region [Q 4 (.mov (.t 0)),
E 5 (.callf 288 [(.t 4)]),
Q 6 (.conv (.int .i64) (.t 5)),
Q 7 (.build [dc (.int .i64 0), dc (.int .i64 0), dc (.int .u64 0), dc (.str [])] [(0, 1, (.t 6))]),
M 3 (.alloc 128 4 [dc (.int .i64 0), dc (.int .i64 0), dc (.int .u64 0), dc (.str [])]),
⟨none, .e (.store 4 (.t 3) (.t 7)), none, 0⟩]) (
.seq (
.seq (
.region [Q 8 (.faddr 0 (.t 3)),
Q 9 (.load false 1 (.t 8))]) (
.block 0 (
.seq (
.region [Q 11 (.bin .eql .scalar (.t 9) (ci 1)),
Q 10 (.mov (.t 11))]) (
.cond (.t 10) (
.region [Q 12 (.mov (.t 0)),
E 13 (.callf 288 [(.t 12)]),
Q 14 (.conv (.int .i64) (.t 13)),
Q 15 (.faddr 1 (.t 3)),
⟨none, .e (.store 1 (.t 15) (.t 14)), none, 0⟩]) (
.seq (
.region [Q 17 (.bin .eql .scalar (.t 9) (ci 2)),
Q 16 (.mov (.t 17))]) (
.cond (.t 16) (
.region [Q 18 (.mov (.t 0)),
E 19 (.callf 313 [(.t 18)]),
Q 20 (.faddr 1 (.t 3)),
⟨none, .e (.store 1 (.t 20) (.t 19)), none, 0⟩]) (
.seq (
.region [Q 22 (.bin .eql .scalar (.t 9) (ci 3)),
Q 21 (.mov (.t 22))]) (
.cond (.t 21) (
.seq (
.region [Q 23 (.mov (ci 0))]) (
.block 1 (
.loop (
.seq (
.region [Q 24 (.bin .lss .scalar (.t 23) (ci 8))]) (
.seq (
.cond (.t 24) (
.skip) (
.exit 1)) (
.seq (
.block 2 (
.draw [⟨0, ⟨some 25, .q (.faddr 2 (.t 3)), none, 0⟩⟩,
⟨1, ⟨some 26, .q (.load false 1 (.t 25)), none, 1⟩⟩,
⟨2, ⟨some 27, .q (.bin .shl .scalar (.t 26) (.c (.one (dc (.int .u64 8))))), none, 3⟩⟩,
⟨3, ⟨some 28, .q (.mov (.t 0)), none, 0⟩⟩,
⟨4, ⟨some 29, .e (.callf 288 [(.t 28)]), none, 8⟩⟩,
⟨5, ⟨some 30, .q (.conv (.int .u64) (.t 29)), none, 24⟩⟩,
⟨6, ⟨some 31, .q (.bin .or .scalar (.t 27) (.t 30)), none, 63⟩⟩,
⟨7, ⟨some 32, .q (.faddr 2 (.t 3)), none, 127⟩⟩,
⟨8, ⟨none, .e (.store 1 (.t 32) (.t 31)), none, 255⟩⟩])) (
.region [Q 33 (.bin .add .scalar (.t 23) (ci 1)),
Q 23 (.mov (.t 33))]))))))) (
.seq (
.seq (
.region [Q 35 (.bin .eql .scalar (.t 9) (ci 4)),
Q 34 (.mov (.t 35))]) (
.cond (.t 34) (
.skip) (
.region [Q 36 (.bin .eql .scalar (.t 9) (ci 5)),
Q 34 (.mov (.t 36))]))) (
.cond (.t 34) (
.region [Q 37 (.mov (.t 0)),
E 38 (.callf 232 [(.t 37), (.c (.one (dc (.int .u64 4096))))]),
Q 39 (.faddr 3 (.t 3)),
⟨none, .e (.store 1 (.t 39) (.t 38)), none, 0⟩]) (
.skip))))))))))) (
.seq (
.seq (
.region [Q 40 (.load true 4 (.t 3)),
E 41 (.callf 158 [(.t 40)]),
Q 42 (.un .not (.t 41))]) (
.cond (.t 42) (
.region [Q 43 (.build [dc (.int .i64 0)] [(0, 1, (ci 7))]),
Q 44 (.mkif 317 (.t 43)),
⟨none, .e (.panic (.t 44)), none, 0⟩]) (
.skip))) (
.seq (
.region [Q 45 (.load true 4 (.t 3)),
⟨none, .e (.store 4 (.t 2) (.t 45)), none, 0⟩]) (
.ret)))))
def a291 : AFunc := ⟨c291, [.cell 2 true 4], false⟩
def c292 : ACode :=
.seq (
.region [Q 4 (.mov (cs []))]) (
.seq (
.seq (
.region [Q 6 (.mov (.t 1)),
Q 7 (.mov (.t 0)),
Q 8 (.nilck (.t 7)),
Q 9 (.faddr 0 (.t 8)),
Q 10 (.load false 1 (.t 9)),
Q 11 (.len .str (.t 10)),
Q 12 (.bin .gtr .scalar (.t 6) (.t 11))]) (
.cond (.t 12) (
.seq (
.region [Q 13 (.mov (.t 0)),
Q 14 (.nilck (.t 13)),
Q 15 (.faddr 1 (.t 14)),
⟨none, .e (.store 1 (.t 15) (cb true)), none, 0⟩]) (
.seq (
.region [Q 16 (.mov (.t 1)),
M 17 (.mkslice 5 1 1 [dc (.int .u8 0)] (.t 16) (.t 16)),
Q 18 (.conv .b2s (.t 17)),
Q 4 (.mov (.t 18))]) (
.ret))) (
.skip))) (
.seq (
.region [Q 19 (.mov (.t 0)),
Q 20 (.nilck (.t 19)),
Q 21 (.faddr 0 (.t 20)),
Q 22 (.load false 1 (.t 21)),
Q 23 (.mov (.t 1)),
Q 24 (.sslice (.t 22) none (some (.t 23))),
Q 5 (.mov (.t 24))]) (
.seq (
.region [Q 25 (.mov (.t 0)),
Q 26 (.mov (.t 0)),
Q 27 (.nilck (.t 26)),
Q 28 (.faddr 0 (.t 27)),
Q 29 (.load false 1 (.t 28)),
Q 30 (.mov (.t 1)),
Q 31 (.sslice (.t 29) (some (.t 30)) none),
Q 32 (.nilck (.t 25)),
Q 33 (.faddr 0 (.t 32)),
⟨none, .e (.store 1 (.t 33) (.t 31)), none, 0⟩]) (
.seq (
.region [Q 34 (.mov (.t 5)),
Q 4 (.mov (.t 34))]) (
.ret)))))
def a292 : AFunc := ⟨c292, [.tmp 4], false⟩
def c293 : ACode :=
.seq (
.region [Q 2 (.mov (.c (.one (dc (.int .u64 0)))))]) (
.seq (
.region [Q 3 (.mov (.c (.one (dc (.int .u64 0)))))]) (
.seq (
.seq (
.region [Q 6 (.mov (.t 0)),
E 7 (.callf 292 [(.t 6), (ci 8)]),
M 8 (.s2b 5 (.t 7)),
Q 9 (.len .sl (.t 8)),
Q 10 (.mov (ci 0))]) (
.block 0 (
.loop (
.seq (
.region [Q 11 (.bin .lss .scalar (.t 10) (.t 9))]) (
.seq (
.cond (.t 11) (
.skip) (
.exit 0)) (
.seq (
.block 1 (
.seq (
.region [Q 12 (.iaddr 1 none (.t 8) (.t 10)),
Q 13 (.load false 1 (.t 12)),
Q 5 (.mov (.t 13))]) (
.region [Q 14 (.mov (.t 3)),
Q 15 (.bin .shl .scalar (.t 14) (.c (.one (dc (.int .u64 8))))),
Q 16 (.mov (.t 5)),
Q 17 (.conv (.int .u64) (.t 16)),
Q 18 (.bin .or .scalar (.t 15) (.t 17)),
Q 3 (.mov (.t 18))]))) (
.region [Q 19 (.bin .add .scalar (.t 10) (ci 1)),
Q 10 (.mov (.t 19))]))))))) (
.seq (
.region [Q 20 (.mov (.t 3)),
Q 2 (.mov (.t 20))]) (
.ret))))
def a293 : AFunc := ⟨c293, [.tmp 2], false⟩
def c294 : ACode :=
.seq (
.region [Q 2 (.mov (.c (.one (dc (.int .u64 0)))))]) (
.seq (
.seq (
.region [Q 3 (.mov (.t 0)),
Q 4 (.bin .and .scalar (.t 3) (.c (.one (dc (.int .u64 9223372036854775808))))),
Q 5 (.bin .gtr .scalar (.t 4) (.c (.one (dc (.int .u64 0)))))]) (
.cond (.t 5) (
.seq (
.region [Q 6 (.mov (.t 0)),
Q 7 (.bin .andNot .scalar (.t 6) (.c (.one (dc (.int .u64 9223372036854775808))))),
Q 2 (.mov (.t 7))]) (
.ret)) (
.skip))) (
.seq (
.region [Q 8 (.mov (.t 0)),
Q 9 (.un .xor (.t 8)),
Q 2 (.mov (.t 9))]) (
.ret)))
def a294 : AFunc := ⟨c294, [.tmp 2], true⟩
def c295 : ACode :=
.seq (
.region [Q 2 (.mov (cs []))]) (
.seq (
.region [Q 3 (.mov (.c (.one (dc (.sl [] true)))))]) (
.seq (
.block 0 (
.loop (
.seq (
.seq (
.region [Q 5 (.mov (.t 0)),
Q 6 (.nilck (.t 5)),
Q 7 (.faddr 1 (.t 6)),
Q 8 (.load false 1 (.t 7)),
Q 9 (.un .not (.t 8))]) (
.cond (.t 9) (
.skip) (
.exit 0))) (
.block 1 (
.seq (
.region [Q 10 (.mov (.t 0)),
E 11 (.callf 292 [(.t 10), (ci 1)]),
Q 4 (.mov (.t 11))]) (
.seq (
.seq (
.region [Q 12 (.mov (.t 4)),
Q 13 (.bin .neq .scalar (.t 12) (cs [0]))]) (
.cond (.t 13) (
.seq (
.region [Q 14 (.mov (.t 3)),
Q 15 (.mov (.t 4)),
E 16 (.append 5 1 1 (.t 14) (.t 15)),
Q 3 (.mov (.t 16))]) (
.exit 1)) (
.skip))) (
.seq (
.region [Q 17 (.mov (.t 4)),
Q 18 (.mov (.t 0)),
E 19 (.callf 292 [(.t 18), (ci 1)]),
Q 20 (.bin .add .scalar (.t 17) (.t 19))]) (
.block 2 (
.seq (
.region [Q 25 (.bin .eql .scalar (.t 20) (cs [0, 1])),
Q 24 (.mov (.t 25))]) (
.cond (.t 24) (
.seq (
.region [Q 26 (.mov (.t 3)),
Q 27 (.conv .b2s (.t 26)),
Q 2 (.mov (.t 27))]) (
.ret)) (
.seq (
.region [Q 29 (.bin .eql .scalar (.t 20) (cs [0, 255])),
Q 28 (.mov (.t 29))]) (
.cond (.t 28) (
.region [Q 30 (.mov (.t 3)),
M 31 (.bslice 5 1 1 [dc (.int .u8 0)] [(0, 1, (.c (.one (dc (.int .u8 0)))))]),
E 32 (.append 5 1 1 (.t 30) (.t 31)),
Q 3 (.mov (.t 32))]) (
.region [Q 21 (.mov (.t 0)),
Q 22 (.nilck (.t 21)),
Q 23 (.faddr 1 (.t 22)),
⟨none, .e (.store 1 (.t 23) (cb true)), none, 0⟩]))))))))))))) (
.seq (
.region [Q 2 (.mov (cs []))]) (
.ret))))
def a295 : AFunc := ⟨c295, [.tmp 2], false⟩
def c296 : ACode :=
.seq (
.region [Q 4 (.mov (.c (.one (dc (.int .u32 0)))))]) (
.seq (
.region [E 8 (.callf 314 []),
M 5 (.alloc 328 256 [dc (.int .u32 0), dc (.int .u32 0), dc (.int .u32 0), dc (.int .u32 0), dc (.int .u32 0), dc (.int .u32 0), dc (.int .u32 0), dc (.int .u32 0), dc (.int .u32 0), dc (.int .u32 0), dc (.int .u32 0), dc (.int .u32 0), dc (.int .u32 0), dc (.int .u32 0), dc (.int .u32 0), dc (.int .u32 0), dc (.int .u32 0), dc (.int .u32 0), dc (.int .u32 0), dc (.int .u32 0), dc (.int .u32 0), dc (.int .u32 0), dc (.int .u32 0), dc (.int .u32 0), dc (.int .u32 0), dc (.int .u32 0), dc (.int .u32 0), dc (.int .u32 0), dc (.int .u32 0), dc (.int .u32 0), dc (.int .u32 0), dc (.int .u32 0), dc (.int .u32 0), dc (.int .u32 0), dc (.int .u32 0), dc (.int .u32 0), dc (.int .u32 0), dc (.int .u32 0), dc (.int .u32 0), dc (.int .u32 0), dc (.int .u32 0), dc (.int .u32 0), dc (.int .u32 0), dc (.int .u32 0), dc (.int .u32 0), dc (.int .u32 0), dc (.int .u32 0), dc (.int .u32 0), dc (.int .u32 0), dc (.int .u32 0), dc (.int .u32 0), dc (.int .u32 0), dc (.int .u32 0), dc (.int .u32 0), dc (.int .u32 0), dc (.int .u32 0), dc (.int .u32 0), dc (.int .u32 0), dc (.int .u32 0), dc (.int .u32 0), dc (.int .u32 0), dc (.int .u32 0), dc (.int .u32 0), dc (.int .u32 0), dc (.int .u32 0), dc (.int .u32 0), dc (.int .u32 0), dc (.int .u32 0), dc (.int .u32 0), dc (.int .u32 0), dc (.int .u32 0), dc (.int .u32 0), dc (.int .u32 0), dc (.int .u32 0), dc (.int .u32 0), dc (.int .u32 0), dc (.int .u32 0), dc (.int .u32 0), dc (.int .u32 0), dc (.int .u32 0), dc (.int .u32 0), dc (.int .u32 0), dc (.int .u32 0), dc (.int .u32 0), dc (.int .u32 0), dc (.int .u32 0), dc (.int .u32 0), dc (.int .u32 0), dc (.int .u32 0), dc (.int .u32 0), dc (.int .u32 0), dc (.int .u32 0), dc (.int .u32 0), dc (.int .u32 0), dc (.int .u32 0), dc (.int .u32 0), dc (.int .u32 0), dc (.int .u32 0), dc (.int .u32 0), dc (.int .u32 0), dc (.int .u32 0), dc (.int .u32 0), dc (.int .u32 0), dc (.int .u32 0), dc (.int .u32 0), dc (.int .u32 0), dc (.int .u32 0), dc (.int .u32 0), dc (.int .u32 0), dc (.int .u32 0), dc (.int .u32 0), dc (.int .u32 0), dc (.int .u32 0), dc (.int .u32 0), dc (.int .u32 0), dc (.int .u32 0), dc (.int .u32 0), dc (.int .u32 0), dc (.int .u32 0), dc (.int .u32 0), dc (.int .u32 0), dc (.int .u32 0), dc (.int .u32 0), dc (.int .u32 0), dc (.int .u32 0), dc (.int .u32 0), dc (.int .u32 0), dc (.int .u32 0), dc (.int .u32 0), dc (.int .u32 0), dc (.int .u32 0), dc (.int .u32 0), dc (.int .u32 0), dc (.int .u32 0), dc (.int .u32 0), dc (.int .u32 0), dc (.int .u32 0), dc (.int .u32 0), dc (.int .u32 0), dc (.int .u32 0), dc (.int .u32 0), dc (.int .u32 0), dc (.int .u32 0), dc (.int .u32 0), dc (.int .u32 0), dc (.int .u32 0), dc (.int .u32 0), dc (.int .u32 0), dc (.int .u32 0), dc (.int .u32 0), dc (.int .u32 0), dc (.int .u32 0), dc (.int .u32 0), dc (.int .u32 0), dc (.int .u32 0), dc (.int .u32 0), dc (.int .u32 0), dc (.int .u32 0), dc (.int .u32 0), dc (.int .u32 0), dc (.int .u32 0), dc (.int .u32 0), dc (.int .u32 0), dc (.int .u32 0), dc (.int .u32 0), dc (.int .u32 0), dc (.int .u32 0), dc (.int .u32 0), dc (.int .u32 0), dc (.int .u32 0), dc (.int .u32 0), dc (.int .u32 0), dc (.int .u32 0), dc (.int .u32 0), dc (.int .u32 0), dc (.int .u32 0), dc (.int .u32 0), dc (.int .u32 0), dc (.int .u32 0), dc (.int .u32 0), dc (.int .u32 0), dc (.int .u32 0), dc (.int .u32 0), dc (.int .u32 0), dc (.int .u32 0), dc (.int .u32 0), dc (.int .u32 0), dc (.int .u32 0), dc (.int .u32 0), dc (.int .u32 0), dc (.int .u32 0), dc (.int .u32 0), dc (.int .u32 0), dc (.int .u32 0), dc (.int .u32 0), dc (.int .u32 0), dc (.int .u32 0), dc (.int .u32 0), dc (.int .u32 0), dc (.int .u32 0), dc (.int .u32 0), dc (.int .u32 0), dc (.int .u32 0), dc (.int .u32 0), dc (.int .u32 0), dc (.int .u32 0), dc (.int .u32 0), dc (.int .u32 0), dc (.int .u32 0), dc (.int .u32 0), dc (.int .u32 0), dc (.int .u32 0), dc (.int .u32 0), dc (.int .u32 0), dc (.int .u32 0), dc (.int .u32 0), dc (.int .u32 0), dc (.int .u32 0), dc (.int .u32 0), dc (.int .u32 0), dc (.int .u32 0), dc (.int .u32 0), dc (.int .u32 0), dc (.int .u32 0), dc (.int .u32 0), dc (.int .u32 0), dc (.int .u32 0), dc (.int .u32 0), dc (.int .u32 0), dc (.int .u32 0), dc (.int .u32 0), dc (.int .u32 0), dc (.int .u32 0), dc (.int .u32 0), dc (.int .u32 0), dc (.int .u32 0), dc (.int .u32 0), dc (.int .u32 0), dc (.int .u32 0), dc (.int .u32 0), dc (.int .u32 0), dc (.int .u32 0), dc (.int .u32 0), dc (.int .u32 0), dc (.int .u32 0), dc (.int .u32 0), dc (.int .u32 0), dc (.int .u32 0), dc (.int .u32 0), dc (.int .u32 0), dc (.int .u32 0), dc (.int .u32 0), dc (.int .u32 0), dc (.int .u32 0), dc (.int .u32 0), dc (.int .u32 0)]),
⟨none, .e (.store 256 (.t 5) (.t 8)), none, 0⟩]) (
.seq (
.region [Q 9 (.mov (.t 0)),
Q 10 (.un .xor (.t 9)),
Q 6 (.mov (.t 10))]) (
.seq (
.seq (
.region [Q 11 (.mov (.t 1)),
Q 12 (.len .str (.t 11)),
Q 13 (.mov (ci 0))]) (
.block 0 (
.loop (
.seq (
.region [Q 14 (.bin .lss .scalar (.t 13) (.t 12))]) (
.seq (
.cond (.t 14) (
.skip) (
.exit 0)) (
.seq (
.block 1 (
.seq (
.region [Q 15 (.mov (.t 13)),
Q 7 (.mov (.t 15))]) (
.region [Q 16 (.mov (.t 6)),
Q 17 (.conv (.int .u8) (.t 16)),
Q 18 (.mov (.t 1)),
Q 19 (.mov (.t 7)),
Q 20 (.sidx (.t 18) (.t 19)),
Q 21 (.bin .xor .scalar (.t 17) (.t 20)),
Q 22 (.iaddr 1 (some 256) (.t 5) (.t 21)),
Q 23 (.load false 1 (.t 22)),
Q 24 (.mov (.t 6)),
Q 25 (.bin .shr .scalar (.t 24) (.c (.one (dc (.int .u64 8))))),
Q 26 (.bin .xor .scalar (.t 23) (.t 25)),
Q 6 (.mov (.t 26))]))) (
.region [Q 27 (.bin .add .scalar (.t 13) (ci 1)),
Q 13 (.mov (.t 27))]))))))) (
.seq (
.region [Q 28 (.mov (.t 6)),
Q 29 (.un .xor (.t 28)),
Q 4 (.mov (.t 29))]) (
.ret)))))
def a296 : AFunc := ⟨c296, [.tmp 4], true⟩
def c297 : ACode :=
.seq (
.region [Q 2 (.mov (cb false))]) (
.seq (
.seq (
.region [Q 3 (.mov (ci 0))]) (
.block 0 (
.loop (
.seq (
.seq (
.region [Q 6 (.mov (.t 3)),
Q 7 (.mov (.t 0)),
Q 8 (.len .str (.t 7)),
Q 9 (.bin .lss .scalar (.t 6) (.t 8))]) (
.cond (.t 9) (
.skip) (
.exit 0))) (
.seq (
.block 1 (
.seq (
.region [Q 12 (.mov (.t 0)),
Q 13 (.mov (.t 3)),
Q 14 (.sidx (.t 12) (.t 13)),
Q 4 (.mov (.t 14))]) (
.seq (
.region [Q 15 (.mov (.t 4)),
Q 16 (.bin .geq .scalar (.t 15) (.c (.one (dc (.int .u8 97))))),
Q 17 (.mov (.t 16)),
⟨some 18, .q (.mov (.t 4)), some (17, true), 0⟩,
⟨some 19, .q (.bin .leq .scalar (.t 18) (.c (.one (dc (.int .u8 122))))), some (17, true), 0⟩,
Q 20 (.pick (.t 17) (.t 19) (cb false)),
Q 21 (.mov (.t 20)),
⟨some 22, .q (.mov (.t 4)), some (21, false), 0⟩,
⟨some 23, .q (.bin .eql .scalar (.t 22) (.c (.one (dc (.int .u8 95))))), some (21, false), 0⟩,
Q 24 (.pick (.t 21) (cb true) (.t 23)),
Q 5 (.mov (.t 24))]) (
.seq (
.region [Q 25 (.mov (.t 5)),
Q 26 (.un .not (.t 25)),
Q 27 (.mov (.t 26)),
⟨some 28, .q (.mov (.t 3)), some (27, true), 0⟩,
⟨some 29, .q (.bin .eql .scalar (.t 28) (ci 0)), some (27, true), 0⟩,
⟨some 30, .q (.mov (.t 29)), some (27, true), 0⟩,
⟨some 31, .q (.mov (.t 4)), some (30, false), 0⟩,
⟨some 32, .q (.bin .lss .scalar (.t 31) (.c (.one (dc (.int .u8 48))))), some (30, false), 0⟩,
⟨some 33, .q (.pick (.t 30) (cb true) (.t 32)), some (27, true), 0⟩,
⟨some 34, .q (.mov (.t 33)), some (27, true), 0⟩,
⟨some 35, .q (.mov (.t 4)), some (34, false), 0⟩,
⟨some 36, .q (.bin .gtr .scalar (.t 35) (.c (.one (dc (.int .u8 57))))), some (34, false), 0⟩,
⟨some 37, .q (.pick (.t 34) (cb true) (.t 36)), some (27, true), 0⟩,
Q 38 (.pick (.t 27) (.t 37) (cb false))]) (
.cond (.t 38) (
.seq (
.region [Q 2 (.mov (cb false))]) (
.ret)) (
.skip)))))) (
.region [Q 10 (.mov (.t 3)),
Q 11 (.bin .add .scalar (.t 10) (ci 1)),
Q 3 (.mov (.t 11))])))))) (
.seq (
.region [Q 39 (.mov (.t 0)),
Q 40 (.len .str (.t 39)),
Q 41 (.bin .geq .scalar (.t 40) (ci 1)),
Q 42 (.mov (.t 41)),
⟨some 43, .q (.mov (.t 0)), some (42, true), 0⟩,
⟨some 44, .q (.len .str (.t 43)), some (42, true), 0⟩,
⟨some 45, .q (.bin .leq .scalar (.t 44) (ci 32)), some (42, true), 0⟩,
Q 46 (.pick (.t 42) (.t 45) (cb false)),
Q 2 (.mov (.t 46))]) (
.ret)))
def a297 : AFunc := ⟨c297, [.tmp 2], true⟩
def c298 : ACode :=
.seq (
.region [Q 4 (.mov (cb false))]) (
.seq (
.seq (
.region [Q 5 (.mov (ci 0))]) (
.block 0 (
.loop (
.seq (
.seq (
.region [Q 6 (.mov (.t 5)),
Q 7 (.mov (.t 0)),
Q 8 (.len .sl (.t 7)),
Q 9 (.bin .lss .scalar (.t 6) (.t 8))]) (
.cond (.t 9) (
.skip) (
.exit 0))) (
.seq (
.block 1 (
.seq (
.region [Q 12 (.mov (.t 0)),
Q 13 (.mov (.t 5)),
Q 14 (.iaddr 4 none (.t 12) (.t 13)),
Q 15 (.load true 4 (.t 14)),
E 16 (.callf 300 [(.t 15)]),
Q 17 (.un .not (.t 16))]) (
.cond (.t 17) (
.seq (
.region [Q 4 (.mov (cb false))]) (
.ret)) (
.skip)))) (
.region [Q 10 (.mov (.t 5)),
Q 11 (.bin .add .scalar (.t 10) (ci 1)),
Q 5 (.mov (.t 11))])))))) (
.seq (
.region [Q 18 (.mov (.t 0)),
Q 19 (.len .sl (.t 18)),
Q 20 (.bin .geq .scalar (.t 19) (ci 1)),
Q 21 (.mov (.t 20)),
⟨some 22, .q (.mov (.t 0)), some (21, true), 0⟩,
⟨some 23, .q (.len .sl (.t 22)), some (21, true), 0⟩,
⟨some 24, .q (.mov (.t 1)), some (21, true), 0⟩,
⟨some 25, .q (.bin .leq .scalar (.t 23) (.t 24)), some (21, true), 0⟩,
Q 26 (.pick (.t 21) (.t 25) (cb false)),
Q 4 (.mov (.t 26))]) (
.ret)))
def a298 : AFunc := ⟨c298, [.tmp 4], true⟩
def c299 : ACode :=
.seq (
.region [M 2 (.box 36 3 (.t 0)),
M 3 (.box 36 3 (.t 1)),
Q 4 (.mov (cb false))]) (
.seq (
.seq (
.region [Q 6 (.faddr 0 (.t 2)),
Q 7 (.load false 1 (.t 6)),
Q 8 (.faddr 0 (.t 3)),
Q 9 (.load false 1 (.t 8)),
Q 10 (.bin .neq .scalar (.t 7) (.t 9)),
Q 11 (.mov (.t 10)),
⟨some 12, .q (.faddr 2 (.t 2)), some (11, false), 0⟩,
⟨some 13, .q (.load false 1 (.t 12)), some (11, false), 0⟩,
⟨some 14, .q (.faddr 2 (.t 3)), some (11, false), 0⟩,
⟨some 15, .q (.load false 1 (.t 14)), some (11, false), 0⟩,
⟨some 16, .q (.bin .neq .scalar (.t 13) (.t 15)), some (11, false), 0⟩,
Q 17 (.pick (.t 11) (cb true) (.t 16)),
Q 18 (.mov (.t 17)),
⟨some 19, .q (.faddr 1 (.t 2)), some (18, false), 0⟩,
⟨some 20, .q (.load false 1 (.t 19)), some (18, false), 0⟩,
⟨some 21, .q (.len .sl (.t 20)), some (18, false), 0⟩,
⟨some 22, .q (.faddr 1 (.t 3)), some (18, false), 0⟩,
⟨some 23, .q (.load false 1 (.t 22)), some (18, false), 0⟩,
⟨some 24, .q (.len .sl (.t 23)), some (18, false), 0⟩,
⟨some 25, .q (.bin .neq .scalar (.t 21) (.t 24)), some (18, false), 0⟩,
Q 26 (.pick (.t 18) (cb true) (.t 25))]) (
.cond (.t 26) (
.seq (
.region [Q 4 (.mov (cb false))]) (
.ret)) (
.skip))) (
.seq (
.seq (
.region [Q 5 (.mov (ci 0))]) (
.block 0 (
.loop (
.seq (
.seq (
.region [Q 27 (.mov (.t 5)),
Q 28 (.faddr 1 (.t 2)),
Q 29 (.load false 1 (.t 28)),
Q 30 (.len .sl (.t 29)),
Q 31 (.bin .lss .scalar (.t 27) (.t 30))]) (
.cond (.t 31) (
.skip) (
.exit 0))) (
.seq (
.block 1 (
.seq (
.draw [⟨0, ⟨some 34, .q (.faddr 1 (.t 2)), none, 0⟩⟩,
⟨1, ⟨some 35, .q (.load false 1 (.t 34)), none, 1⟩⟩,
⟨2, ⟨some 36, .q (.mov (.t 5)), none, 0⟩⟩,
⟨3, ⟨some 37, .q (.iaddr 3 none (.t 35) (.t 36)), none, 7⟩⟩,
⟨4, ⟨some 38, .q (.load true 3 (.t 37)), none, 15⟩⟩,
⟨5, ⟨some 39, .q (.faddr 1 (.t 3)), none, 0⟩⟩,
⟨6, ⟨some 40, .q (.load false 1 (.t 39)), none, 32⟩⟩,
⟨7, ⟨some 41, .q (.mov (.t 5)), none, 0⟩⟩,
⟨8, ⟨some 42, .q (.iaddr 3 none (.t 40) (.t 41)), none, 224⟩⟩,
⟨9, ⟨some 43, .q (.load true 3 (.t 42)), none, 480⟩⟩,
⟨10, ⟨some 44, .q (.bin .neq (.agg [.str, .int, .bool]) (.t 38) (.t 43)), none, 1023⟩⟩]) (
.cond (.t 44) (
.seq (
.region [Q 4 (.mov (cb false))]) (
.ret)) (
.skip)))) (
.region [Q 32 (.mov (.t 5)),
Q 33 (.bin .add .scalar (.t 32) (ci 1)),
Q 5 (.mov (.t 33))])))))) (
.seq (
.region [Q 4 (.mov (cb true))]) (
.ret))))
def a299 : AFunc := ⟨c299, [.tmp 4], true⟩
def c300 : ACode :=
.seq (
.region [M 1 (.box 128 4 (.t 0)),
Q 2 (.mov (cb false))]) (
.seq (
.seq (
.region [Q 3 (.faddr 0 (.t 1)),
Q 4 (.load false 1 (.t 3))]) (
.block 0 (
.seq (
.region [Q 6 (.bin .eql .scalar (.t 4) (ci 0)),
Q 5 (.mov (.t 6))]) (
.cond (.t 5) (
.seq (
.region [Q 7 (.faddr 1 (.t 1)),
Q 8 (.load false 1 (.t 7)),
Q 9 (.bin .eql .scalar (.t 8) (ci 0)),
Q 10 (.mov (.t 9)),
⟨some 11, .q (.faddr 2 (.t 1)), some (10, true), 0⟩,
⟨some 12, .q (.load false 1 (.t 11)), some (10, true), 0⟩,
⟨some 13, .q (.bin .eql .scalar (.t 12) (.c (.one (dc (.int .u64 0))))), some (10, true), 0⟩,
Q 14 (.pick (.t 10) (.t 13) (cb false)),
Q 15 (.mov (.t 14)),
⟨some 16, .q (.faddr 3 (.t 1)), some (15, true), 0⟩,
⟨some 17, .q (.load false 1 (.t 16)), some (15, true), 0⟩,
⟨some 18, .q (.bin .eql .scalar (.t 17) (cs [])), some (15, true), 0⟩,
Q 19 (.pick (.t 15) (.t 18) (cb false)),
Q 2 (.mov (.t 19))]) (
.ret)) (
.seq (
.region [Q 21 (.bin .eql .scalar (.t 4) (ci 1)),
Q 20 (.mov (.t 21))]) (
.cond (.t 20) (
.seq (
.region [Q 22 (.faddr 1 (.t 1)),
Q 23 (.load false 1 (.t 22)),
Q 24 (.bin .eql .scalar (.t 23) (ci 0)),
Q 25 (.mov (.t 24)),
⟨some 26, .q (.faddr 1 (.t 1)), some (25, false), 0⟩,
⟨some 27, .q (.load false 1 (.t 26)), some (25, false), 0⟩,
⟨some 28, .q (.bin .eql .scalar (.t 27) (ci 1)), some (25, false), 0⟩,
Q 29 (.pick (.t 25) (cb true) (.t 28)),
Q 30 (.mov (.t 29)),
⟨some 31, .q (.faddr 2 (.t 1)), some (30, true), 0⟩,
⟨some 32, .q (.load false 1 (.t 31)), some (30, true), 0⟩,
⟨some 33, .q (.bin .eql .scalar (.t 32) (.c (.one (dc (.int .u64 0))))), some (30, true), 0⟩,
Q 34 (.pick (.t 30) (.t 33) (cb false)),
Q 35 (.mov (.t 34)),
⟨some 36, .q (.faddr 3 (.t 1)), some (35, true), 0⟩,
⟨some 37, .q (.load false 1 (.t 36)), some (35, true), 0⟩,
⟨some 38, .q (.bin .eql .scalar (.t 37) (cs [])), some (35, true), 0⟩,
Q 39 (.pick (.t 35) (.t 38) (cb false)),
Q 2 (.mov (.t 39))]) (
.ret)) (
.seq (
.region [Q 41 (.bin .eql .scalar (.t 4) (ci 2)),
Q 40 (.mov (.t 41))]) (
.cond (.t 40) (
.seq (
.region [Q 42 (.faddr 2 (.t 1)),
Q 43 (.load false 1 (.t 42)),
Q 44 (.bin .eql .scalar (.t 43) (.c (.one (dc (.int .u64 0))))),
Q 45 (.mov (.t 44)),
⟨some 46, .q (.faddr 3 (.t 1)), some (45, true), 0⟩,
⟨some 47, .q (.load false 1 (.t 46)), some (45, true), 0⟩,
⟨some 48, .q (.bin .eql .scalar (.t 47) (cs [])), some (45, true), 0⟩,
Q 49 (.pick (.t 45) (.t 48) (cb false)),
Q 2 (.mov (.t 49))]) (
.ret)) (
.seq (
.region [Q 51 (.bin .eql .scalar (.t 4) (ci 3)),
Q 50 (.mov (.t 51))]) (
.cond (.t 50) (
.seq (
.draw [⟨0, ⟨some 52, .q (.faddr 1 (.t 1)), none, 0⟩⟩,
⟨1, ⟨some 53, .q (.load false 1 (.t 52)), none, 1⟩⟩,
⟨2, ⟨some 54, .q (.bin .eql .scalar (.t 53) (ci 0)), none, 3⟩⟩,
⟨3, ⟨some 55, .q (.mov (.t 54)), none, 7⟩⟩,
⟨4, ⟨some 56, .q (.faddr 3 (.t 1)), some (55, true), 15⟩⟩,
⟨5, ⟨some 57, .q (.load false 1 (.t 56)), some (55, true), 31⟩⟩,
⟨6, ⟨some 58, .q (.bin .eql .scalar (.t 57) (cs [])), some (55, true), 63⟩⟩,
⟨7, ⟨some 59, .q (.pick (.t 55) (.t 58) (cb false)), none, 127⟩⟩,
⟨8, ⟨some 60, .q (.mov (.t 59)), none, 255⟩⟩,
⟨9, ⟨some 61, .q (.faddr 2 (.t 1)), some (60, true), 511⟩⟩,
⟨10, ⟨some 62, .q (.load false 1 (.t 61)), some (60, true), 1023⟩⟩,
⟨12, ⟨some 64, .q (.faddr 2 (.t 1)), some (60, true), 511⟩⟩,
⟨13, ⟨some 65, .q (.load false 1 (.t 64)), some (60, true), 4607⟩⟩,
⟨11, ⟨some 63, .e (.callf 315 [(.t 62)]), some (60, true), 2047⟩⟩,
⟨14, ⟨some 66, .q (.bin .eql .scalar (.t 63) (.t 65)), some (60, true), 16383⟩⟩,
⟨15, ⟨some 67, .q (.pick (.t 60) (.t 66) (cb false)), none, 32767⟩⟩,
⟨16, ⟨some 2, .q (.mov (.t 67)), none, 65535⟩⟩]) (
.ret)) (
.seq (
.seq (
.region [Q 69 (.bin .eql .scalar (.t 4) (ci 4)),
Q 68 (.mov (.t 69))]) (
.cond (.t 68) (
.skip) (
.region [Q 70 (.bin .eql .scalar (.t 4) (ci 5)),
Q 68 (.mov (.t 70))]))) (
.cond (.t 68) (
.seq (
.region [Q 71 (.faddr 1 (.t 1)),
Q 72 (.load false 1 (.t 71)),
Q 73 (.bin .eql .scalar (.t 72) (ci 0)),
Q 74 (.mov (.t 73)),
⟨some 75, .q (.faddr 2 (.t 1)), some (74, true), 0⟩,
⟨some 76, .q (.load false 1 (.t 75)), some (74, true), 0⟩,
⟨some 77, .q (.bin .eql .scalar (.t 76) (.c (.one (dc (.int .u64 0))))), some (74, true), 0⟩,
Q 78 (.pick (.t 74) (.t 77) (cb false)),
Q 79 (.mov (.t 78)),
⟨some 80, .q (.faddr 3 (.t 1)), some (79, true), 0⟩,
⟨some 81, .q (.load false 1 (.t 80)), some (79, true), 0⟩,
⟨some 82, .q (.len .str (.t 81)), some (79, true), 0⟩,
⟨some 83, .q (.bin .leq .scalar (.t 82) (ci 4096)), some (79, true), 0⟩,
Q 84 (.pick (.t 79) (.t 83) (cb false)),
Q 2 (.mov (.t 84))]) (
.ret)) (
.skip))))))))))))) (
.seq (
.region [Q 2 (.mov (cb false))]) (
.ret)))
def a300 : AFunc := ⟨c300, [.tmp 2], true⟩
def c301 : ACode :=
.seq (
.region [Q 2 (.mov (cs []))]) (
.seq (
.region [Q 3 (.mov (.t 0)),
E 4 (.callf 316 [(.t 3)]),
E 5 (.callf 173 [(.t 4)]),
Q 2 (.mov (.t 5))]) (
.ret))
def a301 : AFunc := ⟨c301, [.tmp 2], true⟩
def c305 : ACode :=
.seq (
.region [Q 4 (.mov (cb false))]) (
.seq (
.region [Q 5 (.mov (.t 1)),
Q 6 (.bin .geq .scalar (.t 5) (ci 2)),
Q 7 (.mov (.t 6)),
⟨some 8, .q (.mov (.t 1)), some (7, true), 0⟩,
⟨some 9, .q (.mov (.t 0)), some (7, true), 0⟩,
⟨some 10, .q (.nilck (.t 9)), some (7, true), 0⟩,
⟨some 11, .q (.faddr 0 (.t 10)), some (7, true), 0⟩,
⟨some 12, .q (.load false 1 (.t 11)), some (7, true), 0⟩,
⟨some 13, .e (.callf 195 [(.t 12)]), some (7, true), 0⟩,
⟨some 14, .q (.bin .lss .scalar (.t 8) (.t 13)), some (7, true), 0⟩,
Q 15 (.pick (.t 7) (.t 14) (cb false)),
Q 16 (.mov (.t 15)),
⟨some 17, .q (.mov (.t 0)), some (16, true), 0⟩,
⟨some 18, .q (.nilck (.t 17)), some (16, true), 0⟩,
⟨some 19, .q (.faddr 0 (.t 18)), some (16, true), 0⟩,
⟨some 20, .q (.load false 1 (.t 19)), some (16, true), 0⟩,
⟨some 21, .q (.mov (.t 1)), some (16, true), 0⟩,
⟨some 22, .e (.callf 196 [(.t 20), (.t 21)]), some (16, true), 0⟩,
⟨some 23, .q (.un .not (.t 22)), some (16, true), 0⟩,
Q 24 (.pick (.t 16) (.t 23) (cb false)),
Q 4 (.mov (.t 24))]) (
.ret))
def a305 : AFunc := ⟨c305, [.tmp 4], false⟩
def c306 : ACode :=
.seq (
.region [Q 2 (.mov (cs [])),
Q 3 (.mov (cb false))]) (
.seq (
.seq (
.region [Q 6 (.mov (.t 0)),
Q 7 (.bin .eql .scalar (.t 6) (cs []))]) (
.cond (.t 7) (
.seq (
.region [Q 2 (.mov (cs [])),
Q 3 (.mov (cb false))]) (
.ret)) (
.skip))) (
.seq (
.draw [⟨0, ⟨some 8, .q (.mov (.t 0)), none, 0⟩⟩,
⟨1, ⟨some 9, .q (.sidx (.t 8) (ci 0)), none, 1⟩⟩,
⟨2, ⟨some 10, .q (.conv (.int .i64) (.t 9)), none, 3⟩⟩,
⟨3, ⟨some 11, .q (.mov (.t 0)), none, 0⟩⟩,
⟨4, ⟨some 12, .q (.sslice (.t 11) (some (ci 1)) none), none, 8⟩⟩,
⟨5, ⟨some 4, .q (.mov (.t 10)), none, 7⟩⟩,
⟨6, ⟨some 5, .q (.mov (.t 12)), none, 63⟩⟩]) (
.seq (
.seq (
.region [Q 13 (.mov (.t 4)),
Q 14 (.bin .gtr .scalar (.t 13) (ci 123)),
Q 15 (.mov (.t 14)),
⟨some 16, .q (.mov (.t 4)), some (15, false), 0⟩,
⟨some 17, .q (.bin .add .scalar (.t 16) (ci 4)), some (15, false), 0⟩,
⟨some 18, .q (.mov (.t 5)), some (15, false), 0⟩,
⟨some 19, .q (.len .str (.t 18)), some (15, false), 0⟩,
⟨some 20, .q (.bin .gtr .scalar (.t 17) (.t 19)), some (15, false), 0⟩,
Q 21 (.pick (.t 15) (cb true) (.t 20))]) (
.cond (.t 21) (
.seq (
.region [Q 2 (.mov (cs [])),
Q 3 (.mov (cb false))]) (
.ret)) (
.skip))) (
.seq (
.region [Q 22 (.mov (.t 5)),
Q 23 (.mov (.t 4)),
Q 24 (.bin .add .scalar (.t 23) (ci 4)),
Q 25 (.sslice (.t 22) none (some (.t 24))),
E 26 (.callf 120 [(.t 25)]),
Q 27 (.extract 0 (.t 26)),
Q 28 (.extract 1 (.t 26)),
Q 2 (.mov (.t 27)),
Q 3 (.mov (.t 28))]) (
.ret)))))
def a306 : AFunc := ⟨c306, [.tmp 2, .tmp 3], false⟩
def c307 : ACode :=
.seq (
.region [Q 4 (.mov (cs [])),
Q 5 (.mov (cb false))]) (
.seq (
.seq (
.region [Q 6 (.mov (.t 0)),
Q 7 (.len .str (.t 6)),
Q 8 (.mov (.t 1)),
Q 9 (.len .str (.t 8)),
Q 10 (.bin .lss .scalar (.t 7) (.t 9)),
Q 11 (.mov (.t 10)),
⟨some 12, .q (.mov (.t 0)), some (11, false), 0⟩,
⟨some 13, .q (.mov (.t 1)), some (11, false), 0⟩,
⟨some 14, .q (.len .str (.t 13)), some (11, false), 0⟩,
⟨some 15, .q (.sslice (.t 12) none (some (.t 14))), some (11, false), 0⟩,
⟨some 16, .q (.mov (.t 1)), some (11, false), 0⟩,
⟨some 17, .q (.bin .neq .scalar (.t 15) (.t 16)), some (11, false), 0⟩,
Q 18 (.pick (.t 11) (cb true) (.t 17))]) (
.cond (.t 18) (
.seq (
.region [Q 19 (.mov (.t 0)),
Q 4 (.mov (.t 19)),
Q 5 (.mov (cb false))]) (
.ret)) (
.skip))) (
.seq (
.region [Q 20 (.mov (.t 0)),
Q 21 (.mov (.t 1)),
Q 22 (.len .str (.t 21)),
Q 23 (.sslice (.t 20) (some (.t 22)) none),
Q 4 (.mov (.t 23)),
Q 5 (.mov (cb true))]) (
.ret)))
def a307 : AFunc := ⟨c307, [.tmp 4, .tmp 5], false⟩
def c308 : ACode :=
.seq (
.region [Q 2 (.mov (ci 0))]) (
.seq (
.seq (
.region [Q 3 (.mov (.t 0)),
Q 4 (.bin .eql .ptr (.t 3) (.c (.one (dc (.nilp)))))]) (
.cond (.t 4) (
.seq (
.region [Q 2 (.mov (ci 0))]) (
.ret)) (
.skip))) (
.seq (
.draw [⟨0, ⟨some 5, .q (.mov (.t 0)), none, 0⟩⟩,
⟨1, ⟨some 6, .q (.nilck (.t 5)), none, 1⟩⟩,
⟨2, ⟨some 7, .q (.faddr 0 (.t 6)), none, 3⟩⟩,
⟨3, ⟨some 8, .q (.load false 1 (.t 7)), none, 7⟩⟩,
⟨4, ⟨some 9, .q (.len .str (.t 8)), none, 15⟩⟩,
⟨5, ⟨some 10, .q (.mov (.t 0)), none, 0⟩⟩,
⟨6, ⟨some 11, .q (.nilck (.t 10)), none, 32⟩⟩,
⟨7, ⟨some 12, .q (.faddr 1 (.t 11)), none, 96⟩⟩,
⟨8, ⟨some 13, .q (.load false 1 (.t 12)), none, 224⟩⟩,
⟨9, ⟨some 14, .q (.bin .sub .scalar (.t 9) (.t 13)), none, 511⟩⟩,
⟨10, ⟨some 2, .q (.mov (.t 14)), none, 1023⟩⟩]) (
.ret)))
def a308 : AFunc := ⟨c308, [.tmp 2], false⟩
def c309 : ACode :=
.seq (
.region [M 4 (.alloc 325 4 [dc (.int .i64 0), dc (.str []), dc (.str []), dc (.bool false)]),
Q 5 (.mov (cb false))]) (
.seq (
.draw [⟨0, ⟨some 19, .q (.mov (.t 0)), none, 0⟩⟩,
⟨1, ⟨some 20, .q (.nilck (.t 19)), none, 1⟩⟩,
⟨2, ⟨some 21, .q (.faddr 0 (.t 20)), none, 3⟩⟩,
⟨3, ⟨some 22, .q (.load false 1 (.t 21)), none, 7⟩⟩,
⟨4, ⟨some 23, .q (.mov (.t 0)), none, 0⟩⟩,
⟨5, ⟨some 24, .q (.nilck (.t 23)), none, 16⟩⟩,
⟨6, ⟨some 25, .q (.faddr 1 (.t 24)), none, 48⟩⟩,
⟨7, ⟨some 26, .q (.load false 1 (.t 25)), none, 112⟩⟩,
⟨8, ⟨some 27, .q (.bin .add .scalar (.t 26) (ci 2)), none, 240⟩⟩,
⟨9, ⟨some 28, .q (.mov (.t 1)), none, 0⟩⟩,
⟨10, ⟨some 29, .q (.bin .add .scalar (.t 27) (.t 28)), none, 1008⟩⟩,
⟨11, ⟨some 30, .e (.callf 268 [(.t 22), (.t 29)]), none, 2047⟩⟩,
⟨12, ⟨some 18, .q (.mov (.t 30)), none, 4095⟩⟩,
⟨13, ⟨some 31, .q (.extract 0 (.t 18)), none, 8191⟩⟩,
⟨14, ⟨some 32, .q (.extract 1 (.t 18)), none, 8191⟩⟩,
⟨15, ⟨some 6, .q (.mov (.t 31)), none, 16383⟩⟩,
⟨16, ⟨some 7, .q (.mov (.t 32)), none, 65535⟩⟩]) (
.seq (
.region [Q 34 (.mov (.t 6)),
E 35 (.callf 306 [(.t 34)]),
Q 33 (.mov (.t 35)),
Q 36 (.extract 0 (.t 33)),
Q 37 (.extract 1 (.t 33)),
Q 8 (.mov (.t 36)),
Q 9 (.mov (.t 37))]) (
.seq (
.seq (
.region [Q 38 (.mov (.t 9)),
Q 39 (.un .not (.t 38))]) (
.cond (.t 39) (
.seq (
.region [Q 40 (.build [dc (.int .i64 0), dc (.str []), dc (.str []), dc (.bool false)] []),
⟨none, .e (.store 4 (.t 4) (.t 40)), none, 0⟩,
Q 5 (.mov (cb false))]) (
.ret)) (
.skip))) (
.seq (
.region [Q 42 (.mov (.t 8)),
E 43 (.callf 307 [(.t 42), (cs [76])]),
Q 41 (.mov (.t 43)),
Q 44 (.extract 0 (.t 41)),
Q 45 (.extract 1 (.t 41)),
Q 10 (.mov (.t 44)),
Q 11 (.mov (.t 45))]) (
.seq (
.region [Q 46 (.mov (.t 10)),
E 47 (.callf 114 [(.t 46)]),
Q 12 (.mov (.t 47))]) (
.seq (
.region [Q 48 (.mov (.t 12)),
E 49 (.callf 160 [(.t 48)]),
Q 13 (.mov (.t 49))]) (
.seq (
.seq (
.region [Q 50 (.mov (.t 12)),
E 51 (.callf 119 [(.t 50)]),
Q 52 (.bin .neq .scalar (.t 51) (ci 0)),
Q 53 (.mov (.t 52)),
⟨some 54, .q (.mov (.t 13)), some (53, false), 0⟩,
⟨some 55, .q (.bin .gtr .scalar (.t 54) (.c (.one (dc (.int .u64 1099511627776))))), some (53, false), 0⟩,
Q 56 (.pick (.t 53) (cb true) (.t 55))]) (
.cond (.t 56) (
.seq (
.region [Q 57 (.build [dc (.int .i64 0), dc (.str []), dc (.str []), dc (.bool false)] []),
⟨none, .e (.store 4 (.t 4) (.t 57)), none, 0⟩,
Q 5 (.mov (cb false))]) (
.ret)) (
.skip))) (
.seq (
.region [Q 58 (.mov (.t 13)),
Q 59 (.conv (.int .i64) (.t 58)),
Q 14 (.mov (.t 59)),
Q 15 (.mov (cb true))]) (
.seq (
.region [Q 61 (.mov (.t 8)),
Q 62 (.mov (.t 14)),
Q 63 (.mov (.t 1)),
E 64 (.callf 275 [(.t 62), (.t 63), (ci 1)]),
E 65 (.callf 307 [(.t 61), (.t 64)]),
Q 60 (.mov (.t 65)),
Q 66 (.extract 0 (.t 60)),
Q 67 (.extract 1 (.t 60)),
Q 16 (.mov (.t 66)),
Q 9 (.mov (.t 67))]) (
.seq (
.seq (
.region [Q 68 (.mov (.t 9)),
Q 69 (.un .not (.t 68))]) (
.cond (.t 69) (
.seq (
.region [Q 15 (.mov (cb false))]) (
.region [Q 71 (.mov (.t 8)),
Q 72 (.mov (.t 14)),
Q 73 (.mov (.t 1)),
E 74 (.callf 275 [(.t 72), (.t 73), (ci 0)]),
E 75 (.callf 307 [(.t 71), (.t 74)]),
Q 70 (.mov (.t 75)),
Q 76 (.extract 0 (.t 70)),
Q 77 (.extract 1 (.t 70)),
Q 16 (.mov (.t 76)),
Q 9 (.mov (.t 77))])) (
.skip))) (
.seq (
.seq (
.region [Q 78 (.mov (.t 9)),
Q 79 (.un .not (.t 78)),
Q 80 (.mov (.t 79)),
⟨some 81, .q (.mov (.t 16)), some (80, false), 0⟩,
⟨some 82, .q (.len .str (.t 81)), some (80, false), 0⟩,
⟨some 83, .q (.bin .lss .scalar (.t 82) (ci 4)), some (80, false), 0⟩,
Q 84 (.pick (.t 80) (cb true) (.t 83))]) (
.cond (.t 84) (
.seq (
.region [Q 85 (.build [dc (.int .i64 0), dc (.str []), dc (.str []), dc (.bool false)] []),
⟨none, .e (.store 4 (.t 4) (.t 85)), none, 0⟩,
Q 5 (.mov (cb false))]) (
.ret)) (
.skip))) (
.seq (
.draw [⟨0, ⟨some 86, .q (.mov (.t 14)), none, 0⟩⟩,
⟨1, ⟨some 87, .q (.mov (.t 16)), none, 0⟩⟩,
⟨2, ⟨some 88, .q (.sslice (.t 87) none (some (ci 4))), none, 2⟩⟩,
⟨3, ⟨some 89, .q (.mov (.t 16)), none, 0⟩⟩,
⟨4, ⟨some 90, .q (.sslice (.t 89) (some (ci 4)) none), none, 8⟩⟩,
⟨5, ⟨some 91, .q (.mov (.t 15)), none, 0⟩⟩,
⟨6, ⟨some 92, .q (.build [dc (.int .i64 0), dc (.str []), dc (.str []), dc (.bool false)] [(0, 1, (.t 86)), (1, 1, (.t 88)), (2, 1, (.t 90)), (3, 1, (.t 91))]), none, 63⟩⟩,
⟨7, ⟨some 17, .m (.alloc 325 4 [dc (.int .i64 0), dc (.str []), dc (.str []), dc (.bool false)]), none, 0⟩⟩,
⟨8, ⟨none, .e (.store 4 (.t 17) (.t 92)), none, 255⟩⟩]) (
.seq (
.draw [⟨0, ⟨some 93, .q (.load true 4 (.t 17)), none, 0⟩⟩,
⟨1, ⟨some 94, .q (.faddr 2 (.t 17)), none, 0⟩⟩,
⟨2, ⟨some 95, .q (.load false 1 (.t 94)), none, 2⟩⟩,
⟨3, ⟨some 96, .q (.len .str (.t 95)), none, 6⟩⟩,
⟨4, ⟨some 97, .q (.bin .leq .scalar (.t 96) (ci 100)), none, 14⟩⟩,
⟨5, ⟨some 98, .q (.mov (.t 97)), none, 30⟩⟩,
⟨6, ⟨some 99, .q (.mov (.t 15)), some (98, true), 62⟩⟩,
⟨7, ⟨some 100, .q (.un .not (.t 99)), some (98, true), 126⟩⟩,
⟨8, ⟨some 101, .q (.mov (.t 100)), some (98, true), 254⟩⟩,
⟨9, ⟨some 102, .q (.faddr 2 (.t 17)), some (101, false), 510⟩⟩,
⟨10, ⟨some 103, .q (.load false 1 (.t 102)), some (101, false), 1022⟩⟩,
⟨11, ⟨some 104, .q (.len .str (.t 103)), some (101, false), 2046⟩⟩,
⟨12, ⟨some 105, .q (.bin .eql .scalar (.t 104) (ci 100)), some (101, false), 4094⟩⟩,
⟨13, ⟨some 106, .q (.pick (.t 101) (cb true) (.t 105)), some (98, true), 8190⟩⟩,
⟨14, ⟨some 107, .q (.pick (.t 98) (.t 106) (cb false)), none, 16382⟩⟩,
⟨15, ⟨none, .e (.store 4 (.t 4) (.t 93)), none, 511⟩⟩,
⟨16, ⟨some 5, .q (.mov (.t 107)), none, 65535⟩⟩]) (
.ret))))))))))))))
def a309 : AFunc := ⟨c309, [.cell 4 true 4, .tmp 5], false⟩
def c310 : ACode :=
.seq (
.region [Q 2 (.mov (cs []))]) (
.seq (
.region [Q 3 (.mov (.t 0)),
Q 4 (.conv (.int .u64) (.t 3)),
E 5 (.callf 110 [(.t 4)]),
Q 2 (.mov (.t 5))]) (
.ret))
def a310 : AFunc := ⟨c310, [.tmp 2], false⟩
def c311 : ACode :=
.seq (
.region [Q 4 (.mov (ci 0))]) (
.seq (
.block 0 (
.seq (
.region [Q 6 (.mov (.t 0)),
E 7 (.callf 134 [(.t 6)]),
Q 8 (.bin .eql .scalar (.t 7) (ci 0)),
Q 5 (.mov (.t 8))]) (
.cond (.t 5) (
.seq (
.region [Q 4 (.mov (ci 13))]) (
.ret)) (
.seq (
.region [Q 10 (.mov (.t 1)),
Q 11 (.bin .lss .scalar (.t 10) (ci 0)),
Q 12 (.mov (.t 11)),
⟨some 13, .q (.mov (.t 1)), some (12, false), 0⟩,
⟨some 14, .q (.mov (.t 0)), some (12, false), 0⟩,
⟨some 15, .q (.nilck (.t 14)), some (12, false), 0⟩,
⟨some 16, .q (.faddr 0 (.t 15)), some (12, false), 0⟩,
⟨some 17, .q (.load false 1 (.t 16)), some (12, false), 0⟩,
⟨some 18, .q (.bin .geq .scalar (.t 13) (.t 17)), some (12, false), 0⟩,
Q 19 (.pick (.t 12) (cb true) (.t 18)),
Q 9 (.mov (.t 19))]) (
.cond (.t 9) (
.seq (
.region [Q 4 (.mov (ci 2))]) (
.ret)) (
.skip)))))) (
.seq (
.region [Q 4 (.mov (ci 0))]) (
.ret)))
def a311 : AFunc := ⟨c311, [.tmp 4], false⟩
def c312 : ACode :=
.seq (
.region [Q 2 (.mov (cb false))]) (
.seq (
.region [Q 3 (.mov (.t 0)),
Q 4 (.nilck (.t 3)),
Q 5 (.faddr 5 (.t 4)),
Q 6 (.load false 1 (.t 5)),
Q 7 (.mov (.t 6)),
⟨some 8, .q (.mov (.t 0)), some (7, true), 0⟩,
⟨some 9, .q (.nilck (.t 8)), some (7, true), 0⟩,
⟨some 10, .q (.faddr 6 (.t 9)), some (7, true), 0⟩,
⟨some 11, .q (.load false 1 (.t 10)), some (7, true), 0⟩,
⟨some 12, .q (.bin .eql .scalar (.t 11) (ci 0)), some (7, true), 0⟩,
Q 13 (.pick (.t 7) (.t 12) (cb false)),
Q 2 (.mov (.t 13))]) (
.ret))
def a312 : AFunc := ⟨c312, [.tmp 2], false⟩
def c313 : ACode :=
.seq (
.region [Q 2 (.mov (ci 0))]) (
.seq (
.region [Q 4 (.mov (.t 0)),
E 5 (.callf 229 [(.t 4)]),
Q 3 (.mov (.t 5))]) (
.seq (
.region [Q 6 (.mov (.t 3)),
Q 7 (.bin .shr .scalar (.t 6) (.c (.one (dc (.int .u64 1))))),
Q 8 (.conv (.int .i64) (.t 7)),
Q 9 (.mov (.t 3)),
Q 10 (.bin .and .scalar (.t 9) (.c (.one (dc (.int .u64 1))))),
Q 11 (.conv (.int .i64) (.t 10)),
Q 12 (.un .neg (.t 11)),
Q 13 (.bin .xor .scalar (.t 8) (.t 12)),
Q 2 (.mov (.t 13))]) (
.ret)))
def a313 : AFunc := ⟨c313, [.tmp 2], false⟩
def c314 : ACode :=
.seq (
.region [M 0 (.alloc 328 256 [dc (.int .u32 0), dc (.int .u32 0), dc (.int .u32 0), dc (.int .u32 0), dc (.int .u32 0), dc (.int .u32 0), dc (.int .u32 0), dc (.int .u32 0), dc (.int .u32 0), dc (.int .u32 0), dc (.int .u32 0), dc (.int .u32 0), dc (.int .u32 0), dc (.int .u32 0), dc (.int .u32 0), dc (.int .u32 0), dc (.int .u32 0), dc (.int .u32 0), dc (.int .u32 0), dc (.int .u32 0), dc (.int .u32 0), dc (.int .u32 0), dc (.int .u32 0), dc (.int .u32 0), dc (.int .u32 0), dc (.int .u32 0), dc (.int .u32 0), dc (.int .u32 0), dc (.int .u32 0), dc (.int .u32 0), dc (.int .u32 0), dc (.int .u32 0), dc (.int .u32 0), dc (.int .u32 0), dc (.int .u32 0), dc (.int .u32 0), dc (.int .u32 0), dc (.int .u32 0), dc (.int .u32 0), dc (.int .u32 0), dc (.int .u32 0), dc (.int .u32 0), dc (.int .u32 0), dc (.int .u32 0), dc (.int .u32 0), dc (.int .u32 0), dc (.int .u32 0), dc (.int .u32 0), dc (.int .u32 0), dc (.int .u32 0), dc (.int .u32 0), dc (.int .u32 0), dc (.int .u32 0), dc (.int .u32 0), dc (.int .u32 0), dc (.int .u32 0), dc (.int .u32 0), dc (.int .u32 0), dc (.int .u32 0), dc (.int .u32 0), dc (.int .u32 0), dc (.int .u32 0), dc (.int .u32 0), dc (.int .u32 0), dc (.int .u32 0), dc (.int .u32 0), dc (.int .u32 0), dc (.int .u32 0), dc (.int .u32 0), dc (.int .u32 0), dc (.int .u32 0), dc (.int .u32 0), dc (.int .u32 0), dc (.int .u32 0), dc (.int .u32 0), dc (.int .u32 0), dc (.int .u32 0), dc (.int .u32 0), dc (.int .u32 0), dc (.int .u32 0), dc (.int .u32 0), dc (.int .u32 0), dc (.int .u32 0), dc (.int .u32 0), dc (.int .u32 0), dc (.int .u32 0), dc (.int .u32 0), dc (.int .u32 0), dc (.int .u32 0), dc (.int .u32 0), dc (.int .u32 0), dc (.int .u32 0), dc (.int .u32 0), dc (.int .u32 0), dc (.int .u32 0), dc (.int .u32 0), dc (.int .u32 0), dc (.int .u32 0), dc (.int .u32 0), dc (.int .u32 0), dc (.int .u32 0), dc (.int .u32 0), dc (.int .u32 0), dc (.int .u32 0), dc (.int .u32 0), dc (.int .u32 0), dc (.int .u32 0), dc (.int .u32 0), dc (.int .u32 0), dc (.int .u32 0), dc (.int .u32 0), dc (.int .u32 0), dc (.int .u32 0), dc (.int .u32 0), dc (.int .u32 0), dc (.int .u32 0), dc (.int .u32 0), dc (.int .u32 0), dc (.int .u32 0), dc (.int .u32 0), dc (.int .u32 0), dc (.int .u32 0), dc (.int .u32 0), dc (.int .u32 0), dc (.int .u32 0), dc (.int .u32 0), dc (.int .u32 0), dc (.int .u32 0), dc (.int .u32 0), dc (.int .u32 0), dc (.int .u32 0), dc (.int .u32 0), dc (.int .u32 0), dc (.int .u32 0), dc (.int .u32 0), dc (.int .u32 0), dc (.int .u32 0), dc (.int .u32 0), dc (.int .u32 0), dc (.int .u32 0), dc (.int .u32 0), dc (.int .u32 0), dc (.int .u32 0), dc (.int .u32 0), dc (.int .u32 0), dc (.int .u32 0), dc (.int .u32 0), dc (.int .u32 0), dc (.int .u32 0), dc (.int .u32 0), dc (.int .u32 0), dc (.int .u32 0), dc (.int .u32 0), dc (.int .u32 0), dc (.int .u32 0), dc (.int .u32 0), dc (.int .u32 0), dc (.int .u32 0), dc (.int .u32 0), dc (.int .u32 0), dc (.int .u32 0), dc (.int .u32 0), dc (.int .u32 0), dc (.int .u32 0), dc (.int .u32 0), dc (.int .u32 0), dc (.int .u32 0), dc (.int .u32 0), dc (.int .u32 0), dc (.int .u32 0), dc (.int .u32 0), dc (.int .u32 0), dc (.int .u32 0), dc (.int .u32 0), dc (.int .u32 0), dc (.int .u32 0), dc (.int .u32 0), dc (.int .u32 0), dc (.int .u32 0), dc (.int .u32 0), dc (.int .u32 0), dc (.int .u32 0), dc (.int .u32 0), dc (.int .u32 0), dc (.int .u32 0), dc (.int .u32 0), dc (.int .u32 0), dc (.int .u32 0), dc (.int .u32 0), dc (.int .u32 0), dc (.int .u32 0), dc (.int .u32 0), dc (.int .u32 0), dc (.int .u32 0), dc (.int .u32 0), dc (.int .u32 0), dc (.int .u32 0), dc (.int .u32 0), dc (.int .u32 0), dc (.int .u32 0), dc (.int .u32 0), dc (.int .u32 0), dc (.int .u32 0), dc (.int .u32 0), dc (.int .u32 0), dc (.int .u32 0), dc (.int .u32 0), dc (.int .u32 0), dc (.int .u32 0), dc (.int .u32 0), dc (.int .u32 0), dc (.int .u32 0), dc (.int .u32 0), dc (.int .u32 0), dc (.int .u32 0), dc (.int .u32 0), dc (.int .u32 0), dc (.int .u32 0), dc (.int .u32 0), dc (.int .u32 0), dc (.int .u32 0), dc (.int .u32 0), dc (.int .u32 0), dc (.int .u32 0), dc (.int .u32 0), dc (.int .u32 0), dc (.int .u32 0), dc (.int .u32 0), dc (.int .u32 0), dc (.int .u32 0), dc (.int .u32 0), dc (.int .u32 0), dc (.int .u32 0), dc (.int .u32 0), dc (.int .u32 0), dc (.int .u32 0), dc (.int .u32 0), dc (.int .u32 0), dc (.int .u32 0), dc (.int .u32 0), dc (.int .u32 0), dc (.int .u32 0), dc (.int .u32 0), dc (.int .u32 0), dc (.int .u32 0), dc (.int .u32 0), dc (.int .u32 0), dc (.int .u32 0), dc (.int .u32 0), dc (.int .u32 0), dc (.int .u32 0), dc (.int .u32 0), dc (.int .u32 0), dc (.int .u32 0), dc (.int .u32 0), dc (.int .u32 0)])]) (
.seq (
.region [M 1 (.alloc 328 256 [dc (.int .u32 0), dc (.int .u32 0), dc (.int .u32 0), dc (.int .u32 0), dc (.int .u32 0), dc (.int .u32 0), dc (.int .u32 0), dc (.int .u32 0), dc (.int .u32 0), dc (.int .u32 0), dc (.int .u32 0), dc (.int .u32 0), dc (.int .u32 0), dc (.int .u32 0), dc (.int .u32 0), dc (.int .u32 0), dc (.int .u32 0), dc (.int .u32 0), dc (.int .u32 0), dc (.int .u32 0), dc (.int .u32 0), dc (.int .u32 0), dc (.int .u32 0), dc (.int .u32 0), dc (.int .u32 0), dc (.int .u32 0), dc (.int .u32 0), dc (.int .u32 0), dc (.int .u32 0), dc (.int .u32 0), dc (.int .u32 0), dc (.int .u32 0), dc (.int .u32 0), dc (.int .u32 0), dc (.int .u32 0), dc (.int .u32 0), dc (.int .u32 0), dc (.int .u32 0), dc (.int .u32 0), dc (.int .u32 0), dc (.int .u32 0), dc (.int .u32 0), dc (.int .u32 0), dc (.int .u32 0), dc (.int .u32 0), dc (.int .u32 0), dc (.int .u32 0), dc (.int .u32 0), dc (.int .u32 0), dc (.int .u32 0), dc (.int .u32 0), dc (.int .u32 0), dc (.int .u32 0), dc (.int .u32 0), dc (.int .u32 0), dc (.int .u32 0), dc (.int .u32 0), dc (.int .u32 0), dc (.int .u32 0), dc (.int .u32 0), dc (.int .u32 0), dc (.int .u32 0), dc (.int .u32 0), dc (.int .u32 0), dc (.int .u32 0), dc (.int .u32 0), dc (.int .u32 0), dc (.int .u32 0), dc (.int .u32 0), dc (.int .u32 0), dc (.int .u32 0), dc (.int .u32 0), dc (.int .u32 0), dc (.int .u32 0), dc (.int .u32 0), dc (.int .u32 0), dc (.int .u32 0), dc (.int .u32 0), dc (.int .u32 0), dc (.int .u32 0), dc (.int .u32 0), dc (.int .u32 0), dc (.int .u32 0), dc (.int .u32 0), dc (.int .u32 0), dc (.int .u32 0), dc (.int .u32 0), dc (.int .u32 0), dc (.int .u32 0), dc (.int .u32 0), dc (.int .u32 0), dc (.int .u32 0), dc (.int .u32 0), dc (.int .u32 0), dc (.int .u32 0), dc (.int .u32 0), dc (.int .u32 0), dc (.int .u32 0), dc (.int .u32 0), dc (.int .u32 0), dc (.int .u32 0), dc (.int .u32 0), dc (.int .u32 0), dc (.int .u32 0), dc (.int .u32 0), dc (.int .u32 0), dc (.int .u32 0), dc (.int .u32 0), dc (.int .u32 0), dc (.int .u32 0), dc (.int .u32 0), dc (.int .u32 0), dc (.int .u32 0), dc (.int .u32 0), dc (.int .u32 0), dc (.int .u32 0), dc (.int .u32 0), dc (.int .u32 0), dc (.int .u32 0), dc (.int .u32 0), dc (.int .u32 0), dc (.int .u32 0), dc (.int .u32 0), dc (.int .u32 0), dc (.int .u32 0), dc (.int .u32 0), dc (.int .u32 0), dc (.int .u32 0), dc (.int .u32 0), dc (.int .u32 0), dc (.int .u32 0), dc (.int .u32 0), dc (.int .u32 0), dc (.int .u32 0), dc (.int .u32 0), dc (.int .u32 0), dc (.int .u32 0), dc (.int .u32 0), dc (.int .u32 0), dc (.int .u32 0), dc (.int .u32 0), dc (.int .u32 0), dc (.int .u32 0), dc (.int .u32 0), dc (.int .u32 0), dc (.int .u32 0), dc (.int .u32 0), dc (.int .u32 0), dc (.int .u32 0), dc (.int .u32 0), dc (.int .u32 0), dc (.int .u32 0), dc (.int .u32 0), dc (.int .u32 0), dc (.int .u32 0), dc (.int .u32 0), dc (.int .u32 0), dc (.int .u32 0), dc (.int .u32 0), dc (.int .u32 0), dc (.int .u32 0), dc (.int .u32 0), dc (.int .u32 0), dc (.int .u32 0), dc (.int .u32 0), dc (.int .u32 0), dc (.int .u32 0), dc (.int .u32 0), dc (.int .u32 0), dc (.int .u32 0), dc (.int .u32 0), dc (.int .u32 0), dc (.int .u32 0), dc (.int .u32 0), dc (.int .u32 0), dc (.int .u32 0), dc (.int .u32 0), dc (.int .u32 0), dc (.int .u32 0), dc (.int .u32 0), dc (.int .u32 0), dc (.int .u32 0), dc (.int .u32 0), dc (.int .u32 0), dc (.int .u32 0), dc (.int .u32 0), dc (.int .u32 0), dc (.int .u32 0), dc (.int .u32 0), dc (.int .u32 0), dc (.int .u32 0), dc (.int .u32 0), dc (.int .u32 0), dc (.int .u32 0), dc (.int .u32 0), dc (.int .u32 0), dc (.int .u32 0), dc (.int .u32 0), dc (.int .u32 0), dc (.int .u32 0), dc (.int .u32 0), dc (.int .u32 0), dc (.int .u32 0), dc (.int .u32 0), dc (.int .u32 0), dc (.int .u32 0), dc (.int .u32 0), dc (.int .u32 0), dc (.int .u32 0), dc (.int .u32 0), dc (.int .u32 0), dc (.int .u32 0), dc (.int .u32 0), dc (.int .u32 0), dc (.int .u32 0), dc (.int .u32 0), dc (.int .u32 0), dc (.int .u32 0), dc (.int .u32 0), dc (.int .u32 0), dc (.int .u32 0), dc (.int .u32 0), dc (.int .u32 0), dc (.int .u32 0), dc (.int .u32 0), dc (.int .u32 0), dc (.int .u32 0), dc (.int .u32 0), dc (.int .u32 0), dc (.int .u32 0), dc (.int .u32 0), dc (.int .u32 0), dc (.int .u32 0), dc (.int .u32 0), dc (.int .u32 0), dc (.int .u32 0), dc (.int .u32 0), dc (.int .u32 0), dc (.int .u32 0), dc (.int .u32 0), dc (.int .u32 0), dc (.int .u32 0), dc (.int .u32 0), dc (.int .u32 0), dc (.int .u32 0), dc (.int .u32 0), dc (.int .u32 0), dc (.int .u32 0), dc (.int .u32 0), dc (.int .u32 0), dc (.int .u32 0), dc (.int .u32 0), dc (.int .u32 0), dc (.int .u32 0), dc (.int .u32 0), dc (.int .u32 0)])]) (
.seq (
.seq (
.region [Q 5 (.mov (ci 0))]) (
.block 0 (
.loop (
.seq (
.region [Q 6 (.bin .lss .scalar (.t 5) (ci 256))]) (
.seq (
.cond (.t 6) (
.skip) (
.exit 0)) (
.seq (
.block 1 (
.seq (
.region [Q 7 (.mov (.t 5)),
Q 2 (.mov (.t 7))]) (
.seq (
.region [Q 8 (.mov (.t 2)),
Q 9 (.conv (.int .u32) (.t 8)),
Q 3 (.mov (.t 9))]) (
.seq (
.seq (
.region [Q 10 (.mov (ci 0))]) (
.block 2 (
.loop (
.seq (
.region [Q 11 (.bin .lss .scalar (.t 10) (ci 8))]) (
.seq (
.cond (.t 11) (
.skip) (
.exit 2)) (
.seq (
.block 3 (
.seq (
.region [Q 12 (.mov (.t 3)),
Q 13 (.bin .and .scalar (.t 12) (.c (.one (dc (.int .u32 1))))),
Q 4 (.mov (.t 13))]) (
.seq (
.region [Q 14 (.mov (.t 3)),
Q 15 (.bin .shr .scalar (.t 14) (.c (.one (dc (.int .u64 1))))),
Q 3 (.mov (.t 15))]) (
.seq (
.region [Q 16 (.mov (.t 4)),
Q 17 (.bin .gtr .scalar (.t 16) (.c (.one (dc (.int .u32 0)))))]) (
.cond (.t 17) (
.region [Q 18 (.mov (.t 3)),
Q 19 (.bin .xor .scalar (.t 18) (.c (.one (dc (.int .u32 3988292384))))),
Q 3 (.mov (.t 19))]) (
.skip)))))) (
.region [Q 20 (.bin .add .scalar (.t 10) (ci 1)),
Q 10 (.mov (.t 20))]))))))) (
.region [Q 21 (.mov (.t 2)),
Q 22 (.mov (.t 3)),
Q 23 (.iaddr 1 (some 256) (.t 1) (.t 21)),
⟨none, .e (.store 1 (.t 23) (.t 22)), none, 0⟩]))))) (
.region [Q 24 (.bin .add .scalar (.t 5) (ci 1)),
Q 5 (.mov (.t 24))]))))))) (
.seq (
.region [Q 25 (.load true 256 (.t 1)),
⟨none, .e (.store 256 (.t 0) (.t 25)), none, 0⟩]) (
.ret))))
def a314 : AFunc := ⟨c314, [.cell 0 true 256], true⟩
def c315 : ACode :=
.seq (
.region [Q 2 (.mov (.c (.one (dc (.int .u64 0)))))]) (
.seq (
.region [Q 4 (.mov (.t 0)),
Q 5 (.bin .and .scalar (.t 4) (.c (.one (dc (.int .u64 9223372036854775807))))),
Q 3 (.mov (.t 5))]) (
.seq (
.seq (
.region [Q 6 (.mov (.t 3)),
Q 7 (.bin .gtr .scalar (.t 6) (.c (.one (dc (.int .u64 9218868437227405312)))))]) (
.cond (.t 7) (
.seq (
.region [Q 2 (.mov (.c (.one (dc (.int .u64 9221120237041090560)))))]) (
.ret)) (
.skip))) (
.seq (
.seq (
.region [Q 8 (.mov (.t 3)),
Q 9 (.bin .eql .scalar (.t 8) (.c (.one (dc (.int .u64 0)))))]) (
.cond (.t 9) (
.seq (
.region [Q 2 (.mov (.c (.one (dc (.int .u64 0)))))]) (
.ret)) (
.skip))) (
.seq (
.region [Q 10 (.mov (.t 0)),
Q 2 (.mov (.t 10))]) (
.ret)))))
def a315 : AFunc := ⟨c315, [.tmp 2], true⟩
def c316 : ACode :=
.seq (
.region [Q 2 (.mov (.c (.one (dc (.int .u64 0)))))]) (
.seq (
.seq (
.region [Q 3 (.mov (.t 0)),
Q 4 (.bin .geq .scalar (.t 3) (ci 0))]) (
.cond (.t 4) (
.seq (
.region [Q 5 (.mov (.t 0)),
Q 6 (.conv (.int .u64) (.t 5)),
Q 7 (.bin .mul .scalar (.c (.one (dc (.int .u64 2)))) (.t 6)),
Q 2 (.mov (.t 7))]) (
.ret)) (
.skip))) (
.seq (
.region [Q 8 (.mov (.t 0)),
Q 9 (.bin .add .scalar (.t 8) (ci 1)),
Q 10 (.un .neg (.t 9)),
Q 11 (.conv (.int .u64) (.t 10)),
Q 12 (.bin .mul .scalar (.c (.one (dc (.int .u64 2)))) (.t 11)),
Q 13 (.bin .add .scalar (.t 12) (.c (.one (dc (.int .u64 1))))),
Q 2 (.mov (.t 13))]) (
.ret)))
def a316 : AFunc := ⟨c316, [.tmp 2], true⟩
def tbl : PM AFunc := (.node none (.node none (.node none (.node none (.node none (.node none (.node none (.node none (.node (some a255) .nil .nil) .nil) (.node (some a191) (.node none .nil .nil) .nil)) (.node none (.node (some a159) (.node (some a287) .nil .nil) .nil) (.node (some a223) .nil .nil))) (.node none (.node none (.node (some a143) (.node (some a271) .nil .nil) .nil) (.node (some a207) (.node none .nil .nil) .nil)) (.node (some a111) (.node (some a175) (.node none .nil .nil) .nil) (.node (some a239) .nil .nil)))) (.node (some a23) (.node none (.node (some a71) (.node (some a135) (.node (some a263) .nil .nil) .nil) (.node (some a199) (.node none .nil .nil) .nil)) (.node (some a103) (.node (some a167) (.node (some a295) .nil .nil) .nil) (.node (some a231) .nil .nil))) (.node (some a55) (.node (some a87) (.node (some a151) (.node (some a279) .nil .nil) .nil) (.node (some a215) .nil .nil)) (.node (some a119) (.node none (.node (some a311) .nil .nil) .nil) (.node none .nil .nil))))) (.node (some a11) (.node (some a19) (.node none (.node (some a67) (.node none (.node (some a259) .nil .nil) .nil) (.node (some a195) (.node none .nil .nil) .nil)) (.node (some a99) (.node (some a163) (.node (some a291) .nil .nil) .nil) (.node (some a227) .nil .nil))) (.node (some a51) (.node none (.node (some a147) (.node (some a275) .nil .nil) .nil) (.node (some a211) (.node none .nil .nil) .nil)) (.node (some a115) (.node none (.node (some a307) .nil .nil) .nil) (.node (some a243) .nil .nil)))) (.node (some a27) (.node none (.node none (.node (some a139) (.node (some a267) .nil .nil) .nil) (.node (some a203) (.node none .nil .nil) .nil)) (.node (some a107) (.node (some a171) (.node (some a299) .nil .nil) .nil) (.node (some a235) .nil .nil))) (.node (some a59) (.node (some a91) (.node (some a155) (.node (some a283) .nil .nil) .nil) (.node (some a219) .nil .nil)) (.node (some a123) (.node none (.node (some a315) .nil .nil) .nil) (.node (some a251) .nil .nil)))))) (.node none (.node none (.node none (.node none (.node none (.node none (.node (some a257) .nil .nil) .nil) (.node (some a193) (.node none .nil .nil) .nil)) (.node (some a97) (.node (some a161) (.node (some a289) .nil .nil) .nil) (.node (some a225) .nil .nil))) (.node none (.node (some a81) (.node (some a145) (.node (some a273) .nil .nil) .nil) (.node (some a209) (.node none .nil .nil) .nil)) (.node (some a113) (.node (some a177) (.node (some a305) .nil .nil) .nil) (.node (some a241) .nil .nil)))) (.node (some a25) (.node none (.node (some a73) (.node (some a137) (.node (some a265) .nil .nil) .nil) (.node (some a201) (.node none .nil .nil) .nil)) (.node (some a105) (.node (some a169) (.node (some a297) .nil .nil) .nil) (.node (some a233) .nil .nil))) (.node none (.node (some a89) (.node (some a153) (.node (some a281) .nil .nil) .nil) (.node (some a217) .nil .nil)) (.node (some a121) (.node none (.node (some a313) .nil .nil) .nil) (.node none .nil .nil))))) (.node none (.node (some a21) (.node none (.node (some a69) (.node none (.node (some a261) .nil .nil) .nil) (.node (some a197) (.node none .nil .nil) .nil)) (.node (some a101) (.node (some a165) (.node (some a293) .nil .nil) .nil) (.node (some a229) .nil .nil))) (.node (some a53) (.node (some a85) (.node (some a149) (.node (some a277) .nil .nil) .nil) (.node (some a213) (.node none .nil .nil) .nil)) (.node (some a117) (.node none (.node (some a309) .nil .nil) .nil) (.node none .nil .nil)))) (.node none (.node (some a45) (.node none (.node (some a141) (.node (some a269) .nil .nil) .nil) (.node (some a205) (.node none .nil .nil) .nil)) (.node none (.node (some a173) (.node (some a301) .nil .nil) .nil) (.node (some a237) .nil .nil))) (.node (some a61) (.node none (.node (some a157) (.node (some a285) .nil .nil) .nil) (.node (some a221) .nil .nil)) (.node (some a125) (.node none (.node none .nil .nil) .nil) (.node (some a253) .nil .nil))))))) (.node none (.node (some a4) (.node none (.node none (.node none (.node (some a64) (.node none (.node (some a256) .nil .nil) .nil) (.node (some a192) (.node none .nil .nil) .nil)) (.node (some a96) (.node (some a160) (.node (some a288) .nil .nil) .nil) (.node (some a224) .nil .nil))) (.node none (.node none (.node (some a144) (.node (some a272) .nil .nil) .nil) (.node (some a208) (.node none .nil .nil) .nil)) (.node (some a112) (.node (some a176) (.node none .nil .nil) .nil) (.node (some a240) .nil .nil)))) (.node (some a24) (.node none (.node (some a72) (.node (some a136) (.node (some a264) .nil .nil) .nil) (.node (some a200) (.node none .nil .nil) .nil)) (.node (some a104) (.node (some a168) (.node (some a296) .nil .nil) .nil) (.node (some a232) .nil .nil))) (.node (some a56) (.node (some a88) (.node (some a152) (.node (some a280) .nil .nil) .nil) (.node (some a216) .nil .nil)) (.node (some a120) (.node none (.node (some a312) .nil .nil) .nil) (.node none .nil .nil))))) (.node none (.node none (.node none (.node (some a68) (.node (some a132) (.node (some a260) .nil .nil) .nil) (.node (some a196) (.node none .nil .nil) .nil)) (.node (some a100) (.node (some a164) (.node (some a292) .nil .nil) .nil) (.node (some a228) .nil .nil))) (.node (some a52) (.node none (.node none (.node (some a276) .nil .nil) .nil) (.node (some a212) (.node none .nil .nil) .nil)) (.node (some a116) (.node none (.node (some a308) .nil .nil) .nil) (.node (some a244) .nil .nil)))) (.node none (.node none (.node none (.node (some a140) (.node (some a268) .nil .nil) .nil) (.node (some a204) (.node none .nil .nil) .nil)) (.node (some a108) (.node (some a172) (.node (some a300) .nil .nil) .nil) (.node (some a236) .nil .nil))) (.node (some a60) (.node none (.node (some a156) (.node (some a284) .nil .nil) .nil) (.node (some a220) .nil .nil)) (.node (some a124) (.node (some a188) (.node (some a316) .nil .nil) .nil) (.node (some a252) .nil .nil)))))) (.node none (.node (some a10) (.node (some a18) (.node none (.node (some a66) (.node none (.node (some a258) .nil .nil) .nil) (.node (some a194) (.node none .nil .nil) .nil)) (.node (some a98) (.node (some a162) (.node (some a290) .nil .nil) .nil) (.node none .nil .nil))) (.node none (.node none (.node (some a146) (.node (some a274) .nil .nil) .nil) (.node (some a210) (.node none .nil .nil) .nil)) (.node (some a114) (.node (some a178) (.node (some a306) .nil .nil) .nil) (.node (some a242) .nil .nil)))) (.node (some a26) (.node (some a42) (.node (some a74) (.node (some a138) (.node (some a266) .nil .nil) .nil) (.node (some a202) (.node none .nil .nil) .nil)) (.node (some a106) (.node (some a170) (.node (some a298) .nil .nil) .nil) (.node (some a234) .nil .nil))) (.node (some a58) (.node none (.node (some a154) (.node (some a282) .nil .nil) .nil) (.node (some a218) .nil .nil)) (.node (some a122) (.node none (.node (some a314) .nil .nil) .nil) (.node none .nil .nil))))) (.node (some a14) (.node (some a22) (.node none (.node (some a70) (.node (some a134) (.node (some a262) .nil .nil) .nil) (.node (some a198) (.node none .nil .nil) .nil)) (.node (some a102) (.node (some a166) (.node (some a294) .nil .nil) .nil) (.node (some a230) .nil .nil))) (.node (some a54) (.node (some a86) (.node (some a150) (.node (some a278) .nil .nil) .nil) (.node (some a214) (.node none .nil .nil) .nil)) (.node (some a118) (.node none (.node (some a310) .nil .nil) .nil) (.node none .nil .nil)))) (.node none (.node (some a46) (.node none (.node (some a142) (.node (some a270) .nil .nil) .nil) (.node (some a206) (.node none .nil .nil) .nil)) (.node (some a110) (.node (some a174) (.node none .nil .nil) .nil) (.node (some a238) .nil .nil))) (.node (some a62) (.node none (.node (some a158) (.node none .nil .nil) .nil) (.node (some a222) .nil .nil)) (.node (some a126) (.node (some a190) (.node none .nil .nil) .nil) (.node (some a254) .nil .nil))))))))
end Go.Proofs.YtcdebohjjkffkaaGreat.ts
