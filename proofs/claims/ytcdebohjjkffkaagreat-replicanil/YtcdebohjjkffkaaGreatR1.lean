/- The functions' compact code, printed by program. -/
import Derived.Test.YtcdebohjjkffkaaGreatR0
namespace Go.Proofs.YtcdebohjjkffkaaGreat.tr
open Go Go.Rf
def c230 : ACode :=
.seq (
.region [M 2 (.box 186 1 (.t 0)),
M 4 (.alloc 9 1 [dc (.str [])])]) (
.seq (
.seq (
.region [Q 6 (.load false 1 (.t 2)),
Q 7 (.bin .eql .ptr (.t 6) (.c (.one (dc (.nilp))))),
V 8 7,
G 9 (.load false 1 (.t 2)) 8 false,
G 10 (.nilck (.t 9)) 8 false,
G 11 (.faddr 2 (.t 10)) 8 false,
G 12 (.load false 1 (.t 11)) 8 false,
G 13 (.bin .neq .scalar (.t 12) (ci 0)) 8 false,
Q 14 (.pick (.t 8) (cb true) (.t 13))]) (
.cond (.t 14) (
.seq (
.region [Q 15 (.load false 1 (.t 4)),
S 1 4 15]) (
.ret)) (
.skip))) (
.seq (
.region [Q 16 (.load false 1 (.t 2)),
Q 17 (.nilck (.t 16)),
Q 18 (.faddr 1 (.t 17)),
Q 19 (.load false 1 (.t 18)),
M 5 (.alloc 3 1 [dc (.int .i64 0)]),
S 1 5 19]) (
.seq (
.region [Q 20 (.mkfn (.func 289) 289 [] [(.t 5), (.t 4), (.t 2)]),
⟨none, .defer (.t 20) [], none, 0⟩]) (
.seq (
.region [V 21 1,
E 22 (.callv (.t 21) []),
S 1 4 22]) (
.ret)))))
def a230 : AFunc := ⟨c230, [.cell 4 false 1], false⟩
def c231 : ACode :=
.seq (
.region [Q 1 (.mov (cs []))]) (
.seq (
.region [Q 2 (.load false 1 (.t 0)),
E 3 (.callf 232 [(.t 2), (.c (.one (dc (.int .u64 1000000))))]),
V 1 3]) (
.ret))
def a231 : AFunc := ⟨c231, [.tmp 1], false⟩
def c232 : ACode :=
.seq (
.region [Q 4 (.mov (cs []))]) (
.seq (
.region [V 6 0,
E 7 (.callf 229 [(.t 6)]),
V 5 7]) (
.seq (
.block 0 (
.seq (
.region [V 9 5,
V 10 1,
Q 11 (.bin .gtr .scalar (.t 9) (.t 10)),
V 8 11]) (
.cond (.t 8) (
.region [Q 12 (.build [dc (.int .i64 0)] [(0, 1, (ci 19))]),
Q 13 (.mkif 317 (.t 12)),
⟨none, .e (.panic (.t 13)), none, 0⟩]) (
.seq (
.draw [W 0 15 5 0,
W 1 16 0 0,
D 2 17 (.nilck (.t 16)) 2,
D 3 18 (.faddr 0 (.t 17)) 6,
D 4 19 (.load false 1 (.t 18)) 14,
D 5 20 (.len .str (.t 19)) 30,
W 6 21 0 0,
D 7 22 (.nilck (.t 21)) 64,
D 8 23 (.faddr 1 (.t 22)) 192,
D 9 24 (.load false 1 (.t 23)) 448,
D 10 25 (.bin .sub .scalar (.t 20) (.t 24)) 1022,
D 11 26 (.conv (.int .u64) (.t 25)) 2046,
D 12 27 (.bin .gtr .scalar (.t 15) (.t 26)) 4095,
W 13 14 27 8191]) (
.cond (.t 14) (
.region [Q 28 (.build [dc (.int .i64 0)] [(0, 1, (ci 8))]),
Q 29 (.mkif 317 (.t 28)),
⟨none, .e (.panic (.t 29)), none, 0⟩]) (
.skip)))))) (
.seq (
.region [V 30 0,
Q 31 (.nilck (.t 30)),
Q 32 (.faddr 1 (.t 31)),
Q 33 (.load false 1 (.t 32)),
V 34 5,
Q 35 (.conv (.int .i64) (.t 34)),
Q 36 (.bin .add .scalar (.t 33) (.t 35)),
Q 37 (.nilck (.t 30)),
Q 38 (.faddr 1 (.t 37)),
S 1 38 36]) (
.seq (
.draw [W 0 39 0 0,
D 1 40 (.nilck (.t 39)) 1,
D 2 41 (.faddr 0 (.t 40)) 3,
D 3 42 (.load false 1 (.t 41)) 7,
W 4 43 0 0,
D 5 44 (.nilck (.t 43)) 16,
D 6 45 (.faddr 1 (.t 44)) 48,
D 7 46 (.load false 1 (.t 45)) 112,
W 8 47 5 0,
D 9 48 (.conv (.int .i64) (.t 47)) 256,
D 10 49 (.bin .sub .scalar (.t 46) (.t 48)) 1008,
W 11 50 0 0,
D 12 51 (.nilck (.t 50)) 2048,
D 13 52 (.faddr 1 (.t 51)) 6144,
D 14 53 (.load false 1 (.t 52)) 14336,
D 15 54 (.sslice (.t 42) (some (.t 49)) (some (.t 53))) 32767,
W 16 4 54 65535]) (
.ret)))))
def a232 : AFunc := ⟨c232, [.tmp 4], false⟩
def c233 : ACode :=
.seq (
.region [M 2 (.box 186 1 (.t 0)),
M 4 (.alloc 71 1 [dc (.sl [] true)])]) (
.seq (
.seq (
.region [Q 6 (.load false 1 (.t 2)),
Q 7 (.bin .eql .ptr (.t 6) (.c (.one (dc (.nilp))))),
V 8 7,
G 9 (.load false 1 (.t 2)) 8 false,
G 10 (.nilck (.t 9)) 8 false,
G 11 (.faddr 2 (.t 10)) 8 false,
G 12 (.load false 1 (.t 11)) 8 false,
G 13 (.bin .neq .scalar (.t 12) (ci 0)) 8 false,
Q 14 (.pick (.t 8) (cb true) (.t 13))]) (
.cond (.t 14) (
.seq (
.region [Q 15 (.load false 1 (.t 4)),
S 1 4 15]) (
.ret)) (
.skip))) (
.seq (
.region [Q 16 (.load false 1 (.t 2)),
Q 17 (.nilck (.t 16)),
Q 18 (.faddr 1 (.t 17)),
Q 19 (.load false 1 (.t 18)),
M 5 (.alloc 3 1 [dc (.int .i64 0)]),
S 1 5 19]) (
.seq (
.region [Q 20 (.mkfn (.func 290) 290 [] [(.t 5), (.t 4), (.t 2)]),
⟨none, .defer (.t 20) [], none, 0⟩]) (
.seq (
.region [V 21 1,
E 22 (.callv (.t 21) []),
S 1 4 22]) (
.ret)))))
def a233 : AFunc := ⟨c233, [.cell 4 false 1], false⟩
def c234 : ACode :=
.seq (
.region [Q 2 (.mov (.c (.one (dc (.sl [] true)))))]) (
.seq (
.region [V 5 0,
E 6 (.callf 229 [(.t 5)]),
V 3 6]) (
.seq (
.seq (
.region [V 7 3,
Q 8 (.bin .gtr .scalar (.t 7) (.c (.one (dc (.int .u64 1000)))))]) (
.cond (.t 8) (
.region [Q 9 (.build [dc (.int .i64 0)] [(0, 1, (ci 19))]),
Q 10 (.mkif 317 (.t 9)),
⟨none, .e (.panic (.t 10)), none, 0⟩]) (
.skip))) (
.seq (
.region [Q 4 (.mov (.c (.one (dc (.sl [] true)))))]) (
.seq (
.seq (
.region [V 11 3,
Q 12 (.mov (.c (.one (dc (.int .u64 0)))))]) (
.block 0 (
.loop (
.seq (
.region [Q 13 (.bin .lss .scalar (.t 12) (.t 11))]) (
.seq (
.cond (.t 13) (
.skip) (
.exit 0)) (
.seq (
.block 1 (
.region [V 14 4,
V 15 0,
E 16 (.callf 291 [(.t 15)]),
M 17 (.bslice 128 4 1 zl5 [(0, 4, (.t 16))]),
E 18 (.append 128 4 40 (.t 14) (.t 17)),
V 4 18])) (
.region [Q 19 (.bin .add .scalar (.t 12) (.c (.one (dc (.int .u64 1))))),
V 12 19]))))))) (
.seq (
.region [V 20 4,
V 2 20]) (
.ret))))))
def a234 : AFunc := ⟨c234, [.tmp 2], false⟩
def c235 : ACode :=
.seq (
.region [M 2 (.alloc 128 4 zl5)]) (
.seq (
.region [V 4 0,
E 5 (.callf 292 [(.t 4), (ci 1)]),
Q 6 (.sidx (.t 5) (ci 0)),
Q 7 (.conv (.int .i64) (.t 6)),
Q 8 (.bin .sub .scalar (.t 7) (ci 1)),
Q 9 (.build zl5 [(0, 1, (.t 8))]),
M 3 (.alloc 128 4 zl5),
S 4 3 9]) (
.seq (
.seq (
.region [Q 10 (.faddr 0 (.t 3)),
Q 11 (.load false 1 (.t 10))]) (
.block 0 (
.seq (
.region [Q 13 (.bin .eql .scalar (.t 11) (ci 1)),
V 12 13]) (
.cond (.t 12) (
.region [V 14 0,
E 15 (.callf 292 [(.t 14), (ci 1)]),
Q 16 (.sidx (.t 15) (ci 0)),
Q 17 (.conv (.int .i64) (.t 16)),
Q 18 (.faddr 1 (.t 3)),
S 1 18 17]) (
.seq (
.region [Q 20 (.bin .eql .scalar (.t 11) (ci 2)),
V 19 20]) (
.cond (.t 19) (
.region [V 21 0,
E 22 (.callf 293 [(.t 21)]),
Q 23 (.bin .xor .scalar (.t 22) (.c (.one (dc (.int .u64 9223372036854775808))))),
Q 24 (.conv (.int .i64) (.t 23)),
Q 25 (.faddr 1 (.t 3)),
S 1 25 24]) (
.seq (
.region [Q 27 (.bin .eql .scalar (.t 11) (ci 3)),
V 26 27]) (
.cond (.t 26) (
.region [V 28 0,
E 29 (.callf 293 [(.t 28)]),
E 30 (.callf 294 [(.t 29)]),
Q 31 (.faddr 2 (.t 3)),
S 1 31 30]) (
.seq (
.seq (
.region [Q 33 (.bin .eql .scalar (.t 11) (ci 4)),
V 32 33]) (
.cond (.t 32) (
.skip) (
.region [Q 34 (.bin .eql .scalar (.t 11) (ci 5)),
V 32 34]))) (
.cond (.t 32) (
.region [V 35 0,
E 36 (.callf 295 [(.t 35)]),
Q 37 (.faddr 3 (.t 3)),
S 1 37 36]) (
.skip))))))))))) (
.seq (
.region [V 38 0,
V 39 0,
Q 40 (.nilck (.t 39)),
Q 41 (.faddr 1 (.t 40)),
Q 42 (.load false 1 (.t 41)),
V 43 42,
G 44 (.load true 4 (.t 3)) 43 false,
⟨some 45, .e (.callf 158 [(.t 44)]), some (43, false), 0⟩,
G 46 (.un .not (.t 45)) 43 false,
Q 47 (.pick (.t 43) (cb true) (.t 46)),
Q 48 (.nilck (.t 38)),
Q 49 (.faddr 1 (.t 48)),
S 1 49 47]) (
.seq (
.region [Q 50 (.load true 4 (.t 3)),
S 4 2 50]) (
.ret)))))
def a235 : AFunc := ⟨c235, [.cell 2 true 4], false⟩
def c236 : ACode :=
.seq (
.region [Q 2 (.mov (.c (.one (dc (.int .u32 0)))))]) (
.seq (
.region [V 3 0,
E 4 (.callf 296 [(.c (.one (dc (.int .u32 0)))), (.t 3)]),
V 2 4]) (
.ret))
def a236 : AFunc := ⟨c236, [.tmp 2], true⟩
def c237 : ACode :=
.seq (
.region [Q 2 (.mov (cs []))]) (
.seq (
.region [V 3 0,
Q 4 (.conv (.int .u64) (.t 3)),
E 5 (.callf 110 [(.t 4)]),
V 2 5]) (
.ret))
def a237 : AFunc := ⟨c237, [.tmp 2], true⟩
def c238 : ACode :=
.seq (
.region [M 1 (.box 116 8 (.t 0)),
Q 2 (.mov (cs []))]) (
.seq (
.seq (
.region [Q 3 (.faddr 0 (.t 1)),
Q 4 (.load false 1 (.t 3)),
Q 5 (.bin .eql .scalar (.t 4) (ci 3))]) (
.cond (.t 5) (
.seq (
.draw [D 0 6 (.faddr 0 (.t 1)) 0,
D 1 7 (.load false 1 (.t 6)) 1,
D 3 9 (.faddr 5 (.t 1)) 0,
D 4 10 (.load true 3 (.t 9)) 8,
⟨2, ⟨some 8, .e (.callf 237 [(.t 7)]), none, 3⟩⟩,
⟨5, ⟨some 11, .e (.callf 112 [(.t 10)]), none, 31⟩⟩,
⟨6, ⟨some 12, .e (.callf 111 [(.t 11)]), none, 63⟩⟩,
D 7 13 (.bin .add .scalar (.t 8) (.t 12)) 127,
W 8 2 13 255]) (
.ret)) (
.skip))) (
.seq (
.draw [D 0 14 (.faddr 0 (.t 1)) 0,
D 1 15 (.load false 1 (.t 14)) 1,
D 3 17 (.faddr 1 (.t 1)) 0,
D 4 18 (.load false 1 (.t 17)) 8,
D 7 21 (.faddr 2 (.t 1)) 0,
D 8 22 (.load false 1 (.t 21)) 128,
D 11 25 (.faddr 3 (.t 1)) 0,
D 12 26 (.faddr 0 (.t 25)) 2048,
D 13 27 (.load false 1 (.t 26)) 6144,
D 16 30 (.faddr 3 (.t 1)) 0,
D 17 31 (.faddr 1 (.t 30)) 65536,
D 18 32 (.load false 1 (.t 31)) 196608,
⟨2, ⟨some 16, .e (.callf 237 [(.t 15)]), none, 3⟩⟩,
⟨5, ⟨some 19, .e (.callf 111 [(.t 18)]), none, 31⟩⟩,
D 6 20 (.bin .add .scalar (.t 16) (.t 19)) 63,
⟨9, ⟨some 23, .e (.callf 113 [(.t 22)]), none, 447⟩⟩,
D 10 24 (.bin .add .scalar (.t 20) (.t 23)) 1023,
⟨14, ⟨some 28, .e (.callf 237 [(.t 27)]), none, 15295⟩⟩,
D 15 29 (.bin .add .scalar (.t 24) (.t 28)) 32767,
⟨19, ⟨some 33, .e (.callf 237 [(.t 32)]), none, 490431⟩⟩,
D 20 34 (.bin .add .scalar (.t 29) (.t 33)) 1048575,
W 21 2 34 2097151]) (
.ret)))
def a238 : AFunc := ⟨c238, [.tmp 2], true⟩
def c239 : ACode :=
.seq (
.region [M 2 (.alloc 63 2 zl9),
Q 3 (.mov (ci 0))]) (
.seq (
.draw [D 0 7 (.load false 1 (.t 0)) 0,
D 1 8 (.nilck (.t 7)) 1,
D 2 9 (.faddr 1 (.t 8)) 3,
D 3 10 (.load false 1 (.t 9)) 7,
D 4 11 (.load false 1 (.t 1)) 0,
⟨5, ⟨some 12, .e (.callf 191 [(.t 10), (.t 11)]), none, 31⟩⟩,
W 6 6 12 63,
D 7 13 (.extract 0 (.t 6)) 127,
D 8 14 (.extract 1 (.t 6)) 127,
W 9 4 13 255,
W 10 5 14 1023]) (
.seq (
.region [Q 15 (.load false 1 (.t 0)),
Q 16 (.nilck (.t 15)),
Q 17 (.faddr 3 (.t 16)),
Q 18 (.load true 2 (.t 17)),
V 19 4,
E 20 (.callf 240 [(.t 18), (.t 19)]),
V 21 5,
S 2 2 20,
V 3 21]) (
.ret)))
def a239 : AFunc := ⟨c239, [.cell 2 true 2, .tmp 3], false⟩
def c240 : ACode :=
.seq (
.region [M 2 (.box 63 2 (.t 0)),
M 4 (.alloc 63 2 zl9)]) (
.seq (
.region [Q 5 (.faddr 1 (.t 2)),
Q 6 (.load false 1 (.t 5)),
E 7 (.append 3 1 8 (.c (.one (dc (.sl [] true)))) (.t 6)),
V 8 1,
M 9 (.bslice 3 1 1 [dc (.int .i64 0)] [(0, 1, (.t 8))]),
E 10 (.append 3 1 8 (.t 7) (.t 9)),
Q 11 (.faddr 1 (.t 2)),
S 1 11 10]) (
.seq (
.region [Q 12 (.load true 2 (.t 2)),
S 2 4 12]) (
.ret)))
def a240 : AFunc := ⟨c240, [.cell 4 true 2], false⟩
def c241 : ACode :=
.seq (
.region [M 1 (.box 116 8 (.t 0)),
Q 2 (.mov (cb false))]) (
.seq (
.seq (
.region [Q 4 (.faddr 0 (.t 1)),
Q 5 (.load false 1 (.t 4)),
Q 6 (.bin .eql .scalar (.t 5) (ci 3))]) (
.cond (.t 6) (
.seq (
.region [Q 7 (.faddr 5 (.t 1)),
Q 8 (.load true 3 (.t 7)),
E 9 (.callf 242 [(.t 8)]),
V 10 9,
G 11 (.faddr 1 (.t 1)) 10 true,
G 12 (.load false 1 (.t 11)) 10 true,
G 13 (.faddr 5 (.t 1)) 10 true,
G 14 (.faddr 0 (.t 13)) 10 true,
G 15 (.load false 1 (.t 14)) 10 true,
G 16 (.bin .eql .scalar (.t 12) (.t 15)) 10 true,
Q 17 (.pick (.t 10) (.t 16) (cb false)),
V 18 17,
G 19 (.faddr 2 (.t 1)) 18 true,
G 20 (.load false 1 (.t 19)) 18 true,
G 21 (.len .sl (.t 20)) 18 true,
G 22 (.bin .eql .scalar (.t 21) (ci 0)) 18 true,
Q 23 (.pick (.t 18) (.t 22) (cb false)),
V 24 23,
G 25 (.faddr 3 (.t 1)) 24 true,
G 26 (.load true 2 (.t 25)) 24 true,
G 27 (.build zl7 []) 24 true,
G 28 (.bin .eql (.agg [.int, .int]) (.t 26) (.t 27)) 24 true,
Q 29 (.pick (.t 24) (.t 28) (cb false)),
V 2 29]) (
.ret)) (
.skip))) (
.seq (
.region [Q 3 (.mov (ci 16))]) (
.seq (
.seq (
.region [Q 30 (.faddr 0 (.t 1)),
Q 31 (.load false 1 (.t 30)),
Q 32 (.bin .eql .scalar (.t 31) (ci 2))]) (
.cond (.t 32) (
.region [Q 3 (.mov (ci 8))]) (
.skip))) (
.seq (
.seq (
.region [Q 33 (.faddr 0 (.t 1)),
Q 34 (.load false 1 (.t 33)),
Q 35 (.bin .neq .scalar (.t 34) (ci 1)),
V 36 35,
G 37 (.faddr 0 (.t 1)) 36 true,
G 38 (.load false 1 (.t 37)) 36 true,
G 39 (.bin .neq .scalar (.t 38) (ci 2)) 36 true,
Q 40 (.pick (.t 36) (.t 39) (cb false)),
V 41 40,
G 42 (.faddr 1 (.t 1)) 41 false,
G 43 (.load false 1 (.t 42)) 41 false,
⟨some 44, .e (.callf 297 [(.t 43)]), some (41, false), 0⟩,
G 45 (.un .not (.t 44)) 41 false,
Q 46 (.pick (.t 41) (cb true) (.t 45)),
V 47 46,
G 48 (.faddr 2 (.t 1)) 47 false,
G 49 (.load false 1 (.t 48)) 47 false,
G 50 (.mov (.t 3)) 47 false,
⟨some 51, .e (.callf 298 [(.t 49), (.t 50)]), some (47, false), 0⟩,
G 52 (.un .not (.t 51)) 47 false,
Q 53 (.pick (.t 47) (cb true) (.t 52)),
V 54 53,
G 55 (.faddr 5 (.t 1)) 54 false,
G 56 (.load true 3 (.t 55)) 54 false,
G 57 (.build zl29 []) 54 false,
⟨some 58, .e (.callf 299 [(.t 56), (.t 57)]), some (54, false), 0⟩,
G 59 (.un .not (.t 58)) 54 false,
Q 60 (.pick (.t 54) (cb true) (.t 59))]) (
.cond (.t 60) (
.seq (
.region [Q 2 (.mov (cb false))]) (
.ret)) (
.skip))) (
.seq (
.region [Q 61 (.faddr 3 (.t 1)),
Q 62 (.faddr 0 (.t 61)),
Q 63 (.load false 1 (.t 62)),
Q 64 (.bin .geq .scalar (.t 63) (ci 0)),
V 65 64,
G 66 (.faddr 3 (.t 1)) 65 true,
G 67 (.faddr 1 (.t 66)) 65 true,
G 68 (.load false 1 (.t 67)) 65 true,
G 69 (.faddr 3 (.t 1)) 65 true,
G 70 (.faddr 0 (.t 69)) 65 true,
G 71 (.load false 1 (.t 70)) 65 true,
G 72 (.bin .gtr .scalar (.t 68) (.t 71)) 65 true,
Q 73 (.pick (.t 65) (.t 72) (cb false)),
V 74 73,
G 75 (.faddr 3 (.t 1)) 74 true,
G 76 (.faddr 1 (.t 75)) 74 true,
G 77 (.load false 1 (.t 76)) 74 true,
G 78 (.bin .leq .scalar (.t 77) (ci 1099511627776)) 74 true,
Q 79 (.pick (.t 74) (.t 78) (cb false)),
V 2 79]) (
.ret))))))
def a241 : AFunc := ⟨c241, [.tmp 2], true⟩
def c242 : ACode :=
.seq (
.region [M 1 (.box 36 3 (.t 0)),
Q 2 (.mov (cb false))]) (
.seq (
.region [Q 7 (.faddr 1 (.t 1)),
Q 8 (.load false 1 (.t 7)),
Q 9 (.len .sl (.t 8)),
V 3 9]) (
.seq (
.seq (
.region [Q 10 (.faddr 0 (.t 1)),
Q 11 (.load false 1 (.t 10)),
E 12 (.callf 297 [(.t 11)]),
Q 13 (.un .not (.t 12)),
V 14 13,
G 15 (.mov (.t 3)) 14 false,
G 16 (.bin .lss .scalar (.t 15) (ci 1)) 14 false,
Q 17 (.pick (.t 14) (cb true) (.t 16)),
V 18 17,
G 19 (.mov (.t 3)) 18 false,
G 20 (.bin .gtr .scalar (.t 19) (ci 16)) 18 false,
Q 21 (.pick (.t 18) (cb true) (.t 20)),
V 22 21,
G 23 (.faddr 2 (.t 1)) 22 false,
G 24 (.load false 1 (.t 23)) 22 false,
G 25 (.bin .lss .scalar (.t 24) (ci 1)) 22 false,
Q 26 (.pick (.t 22) (cb true) (.t 25)),
V 27 26,
G 28 (.faddr 2 (.t 1)) 27 false,
G 29 (.load false 1 (.t 28)) 27 false,
G 30 (.bin .gtr .scalar (.t 29) (ci 8)) 27 false,
Q 31 (.pick (.t 27) (cb true) (.t 30)),
V 32 31,
G 33 (.faddr 2 (.t 1)) 32 false,
G 34 (.load false 1 (.t 33)) 32 false,
G 35 (.mov (.t 3)) 32 false,
G 36 (.bin .gtr .scalar (.t 34) (.t 35)) 32 false,
Q 37 (.pick (.t 32) (cb true) (.t 36))]) (
.cond (.t 37) (
.seq (
.region [Q 2 (.mov (cb false))]) (
.ret)) (
.skip))) (
.seq (
.seq (
.region [Q 4 (.mov (ci 0))]) (
.block 0 (
.loop (
.seq (
.seq (
.region [V 38 4,
V 39 3,
Q 40 (.bin .lss .scalar (.t 38) (.t 39))]) (
.cond (.t 40) (
.skip) (
.exit 0))) (
.seq (
.block 1 (
.seq (
.region [Q 43 (.faddr 1 (.t 1)),
Q 44 (.load false 1 (.t 43)),
V 45 4,
Q 46 (.iaddr 3 none (.t 44) (.t 45)),
Q 47 (.load true 3 (.t 46)),
M 5 (.alloc 185 3 zl26),
S 3 5 47]) (
.seq (
.seq (
.region [Q 48 (.faddr 0 (.t 5)),
Q 49 (.load false 1 (.t 48)),
E 50 (.callf 297 [(.t 49)]),
Q 51 (.un .not (.t 50)),
V 52 51,
G 53 (.faddr 1 (.t 5)) 52 false,
G 54 (.load false 1 (.t 53)) 52 false,
G 55 (.bin .lss .scalar (.t 54) (ci 1)) 52 false,
Q 56 (.pick (.t 52) (cb true) (.t 55)),
V 57 56,
G 58 (.faddr 1 (.t 5)) 57 false,
G 59 (.load false 1 (.t 58)) 57 false,
G 60 (.bin .gtr .scalar (.t 59) (ci 5)) 57 false,
Q 61 (.pick (.t 57) (cb true) (.t 60)),
V 62 61,
G 63 (.mov (.t 4)) 62 false,
G 64 (.faddr 2 (.t 1)) 62 false,
G 65 (.load false 1 (.t 64)) 62 false,
G 66 (.bin .lss .scalar (.t 63) (.t 65)) 62 false,
G 67 (.mov (.t 66)) 62 false,
G 68 (.faddr 2 (.t 5)) 67 true,
G 69 (.load false 1 (.t 68)) 67 true,
G 70 (.un .not (.t 69)) 67 true,
G 71 (.pick (.t 67) (.t 70) (cb false)) 62 false,
Q 72 (.pick (.t 62) (cb true) (.t 71))]) (
.cond (.t 72) (
.seq (
.region [Q 2 (.mov (cb false))]) (
.ret)) (
.skip))) (
.seq (
.region [Q 6 (.mov (ci 0))]) (
.block 2 (
.loop (
.seq (
.seq (
.region [V 73 6,
V 74 4,
Q 75 (.bin .lss .scalar (.t 73) (.t 74))]) (
.cond (.t 75) (
.skip) (
.exit 2))) (
.seq (
.block 3 (
.seq (
.draw [D 0 78 (.faddr 1 (.t 1)) 0,
D 1 79 (.load false 1 (.t 78)) 1,
W 2 80 6 0,
D 3 81 (.iaddr 3 none (.t 79) (.t 80)) 7,
D 4 82 (.faddr 0 (.t 81)) 15,
D 5 83 (.load false 1 (.t 82)) 31,
D 6 84 (.faddr 0 (.t 5)) 0,
D 7 85 (.load false 1 (.t 84)) 64,
D 8 86 (.bin .eql .scalar (.t 83) (.t 85)) 255]) (
.cond (.t 86) (
.seq (
.region [Q 2 (.mov (cb false))]) (
.ret)) (
.skip)))) (
.region [V 76 6,
Q 77 (.bin .add .scalar (.t 76) (ci 1)),
V 6 77]))))))))) (
.region [V 41 4,
Q 42 (.bin .add .scalar (.t 41) (ci 1)),
V 4 42])))))) (
.seq (
.region [Q 2 (.mov (cb true))]) (
.ret)))))
def a242 : AFunc := ⟨c242, [.tmp 2], true⟩
def c243 : ACode :=
.seq (
.region [M 1 (.box 128 4 (.t 0)),
Q 2 (.mov (cs []))]) (
.seq (
.seq (
.region [Q 4 (.load true 4 (.t 1)),
E 5 (.callf 300 [(.t 4)]),
Q 6 (.un .not (.t 5))]) (
.cond (.t 6) (
.seq (
.region [Q 2 (.mov (cs []))]) (
.ret)) (
.skip))) (
.seq (
.region [Q 7 (.faddr 0 (.t 1)),
Q 8 (.load false 1 (.t 7)),
Q 9 (.conv (.int .u8) (.t 8)),
M 10 (.bslice 5 1 1 [dc (.int .u8 0)] [(0, 1, (.t 9))]),
Q 11 (.conv .b2s (.t 10)),
V 3 11]) (
.seq (
.seq (
.region [Q 12 (.faddr 0 (.t 1)),
Q 13 (.load false 1 (.t 12))]) (
.block 0 (
.seq (
.region [Q 15 (.bin .eql .scalar (.t 13) (ci 1)),
V 14 15]) (
.cond (.t 14) (
.seq (
.region [V 16 3,
Q 17 (.faddr 1 (.t 1)),
Q 18 (.load false 1 (.t 17)),
Q 19 (.conv (.int .u8) (.t 18)),
M 20 (.bslice 5 1 1 [dc (.int .u8 0)] [(0, 1, (.t 19))]),
Q 21 (.conv .b2s (.t 20)),
Q 22 (.bin .add .scalar (.t 16) (.t 21)),
V 2 22]) (
.ret)) (
.seq (
.region [Q 24 (.bin .eql .scalar (.t 13) (ci 2)),
V 23 24]) (
.cond (.t 23) (
.seq (
.region [V 25 3,
Q 26 (.faddr 1 (.t 1)),
Q 27 (.load false 1 (.t 26)),
E 28 (.callf 301 [(.t 27)]),
Q 29 (.bin .add .scalar (.t 25) (.t 28)),
V 2 29]) (
.ret)) (
.seq (
.region [Q 31 (.bin .eql .scalar (.t 13) (ci 3)),
V 30 31]) (
.cond (.t 30) (
.seq (
.region [V 32 3,
Q 33 (.faddr 2 (.t 1)),
Q 34 (.load false 1 (.t 33)),
E 35 (.callf 177 [(.t 34)]),
Q 36 (.bin .add .scalar (.t 32) (.t 35)),
V 2 36]) (
.ret)) (
.seq (
.seq (
.region [Q 38 (.bin .eql .scalar (.t 13) (ci 4)),
V 37 38]) (
.cond (.t 37) (
.skip) (
.region [Q 39 (.bin .eql .scalar (.t 13) (ci 5)),
V 37 39]))) (
.cond (.t 37) (
.seq (
.region [V 40 3,
Q 41 (.faddr 3 (.t 1)),
Q 42 (.load false 1 (.t 41)),
E 43 (.callf 174 [(.t 42)]),
Q 44 (.bin .add .scalar (.t 40) (.t 43)),
V 2 44]) (
.ret)) (
.skip))))))))))) (
.seq (
.region [V 45 3,
V 2 45]) (
.ret)))))
def a243 : AFunc := ⟨c243, [.tmp 2], true⟩
def c244 : ACode :=
.seq (
.region [Q 4 (.mov (.c (.one (dc (.int .u32 0)))))]) (
.seq (
.region [V 8 0,
Q 9 (.bin .sub .scalar (.c (.one (dc (.int .u32 4294967295)))) (.t 8)),
V 5 9]) (
.seq (
.seq (
.region [Q 6 (.mov (ci 0))]) (
.block 0 (
.loop (
.seq (
.seq (
.region [V 10 6,
V 11 1,
Q 12 (.len .str (.t 11)),
Q 13 (.bin .lss .scalar (.t 10) (.t 12))]) (
.cond (.t 13) (
.skip) (
.exit 0))) (
.seq (
.block 1 (
.seq (
.region [V 16 5,
V 17 1,
V 18 6,
Q 19 (.sidx (.t 17) (.t 18)),
Q 20 (.conv (.int .u32) (.t 19)),
Q 21 (.bin .xor .scalar (.t 16) (.t 20)),
V 5 21]) (
.seq (
.region [Q 7 (.mov (ci 0))]) (
.block 2 (
.loop (
.seq (
.seq (
.region [V 22 7,
Q 23 (.bin .lss .scalar (.t 22) (ci 8))]) (
.cond (.t 23) (
.skip) (
.exit 2))) (
.seq (
.block 3 (
.seq (
.region [V 26 5,
Q 27 (.bin .rem .scalar (.t 26) (.c (.one (dc (.int .u32 2))))),
Q 28 (.bin .eql .scalar (.t 27) (.c (.one (dc (.int .u32 1)))))]) (
.cond (.t 28) (
.region [V 29 5,
Q 30 (.bin .quo .scalar (.t 29) (.c (.one (dc (.int .u32 2))))),
Q 31 (.bin .xor .scalar (.t 30) (.c (.one (dc (.int .u32 3988292384))))),
V 5 31]) (
.region [V 32 5,
Q 33 (.bin .quo .scalar (.t 32) (.c (.one (dc (.int .u32 2))))),
V 5 33])))) (
.region [V 24 7,
Q 25 (.bin .add .scalar (.t 24) (ci 1)),
V 7 25])))))))) (
.region [V 14 6,
Q 15 (.bin .add .scalar (.t 14) (ci 1)),
V 6 15])))))) (
.seq (
.region [V 34 5,
Q 35 (.bin .sub .scalar (.c (.one (dc (.int .u32 4294967295)))) (.t 34)),
V 4 35]) (
.ret))))
def a244 : AFunc := ⟨c244, [.tmp 4], true⟩
def c245 : ACode :=
.seq (
.region [M 2 (.box 36 3 (.t 0)),
Q 4 (.mov (cb false))]) (
.seq (
.seq (
.region [V 7 1,
Q 8 (.len .sl (.t 7)),
Q 9 (.faddr 2 (.t 2)),
Q 10 (.load false 1 (.t 9)),
Q 11 (.bin .neq .scalar (.t 8) (.t 10)),
V 12 11,
G 13 (.faddr 2 (.t 2)) 12 false,
G 14 (.load false 1 (.t 13)) 12 false,
G 15 (.faddr 1 (.t 2)) 12 false,
G 16 (.load false 1 (.t 15)) 12 false,
G 17 (.len .sl (.t 16)) 12 false,
G 18 (.bin .gtr .scalar (.t 14) (.t 17)) 12 false,
Q 19 (.pick (.t 12) (cb true) (.t 18))]) (
.cond (.t 19) (
.seq (
.region [Q 4 (.mov (cb false))]) (
.ret)) (
.skip))) (
.seq (
.seq (
.region [V 20 1,
Q 21 (.len .sl (.t 20)),
Q 22 (.mov (ci 0))]) (
.block 0 (
.loop (
.seq (
.region [Q 23 (.bin .lss .scalar (.t 22) (.t 21))]) (
.seq (
.cond (.t 23) (
.skip) (
.exit 0)) (
.seq (
.block 1 (
.seq (
.region [V 24 22,
Q 25 (.iaddr 4 none (.t 20) (.t 22)),
Q 26 (.load true 4 (.t 25)),
M 6 (.alloc 128 4 zl5),
V 5 24,
S 4 6 26]) (
.seq (
.draw [D 0 27 (.load true 4 (.t 6)) 0,
⟨1, ⟨some 28, .e (.callf 158 [(.t 27)]), none, 1⟩⟩,
D 2 29 (.un .not (.t 28)) 3,
W 3 30 29 7,
⟨4, ⟨some 31, .q (.faddr 0 (.t 6)), some (30, false), 15⟩⟩,
⟨5, ⟨some 32, .q (.load false 1 (.t 31)), some (30, false), 31⟩⟩,
⟨6, ⟨some 33, .q (.faddr 1 (.t 2)), some (30, false), 15⟩⟩,
⟨7, ⟨some 34, .q (.load false 1 (.t 33)), some (30, false), 79⟩⟩,
⟨8, ⟨some 35, .q (.mov (.t 5)), some (30, false), 15⟩⟩,
⟨9, ⟨some 36, .q (.iaddr 3 none (.t 34) (.t 35)), some (30, false), 463⟩⟩,
⟨10, ⟨some 37, .q (.faddr 1 (.t 36)), some (30, false), 975⟩⟩,
⟨11, ⟨some 38, .q (.load false 1 (.t 37)), some (30, false), 1999⟩⟩,
⟨12, ⟨some 39, .q (.bin .neq .scalar (.t 32) (.t 38)), some (30, false), 4095⟩⟩,
D 13 40 (.pick (.t 30) (cb true) (.t 39)) 8191]) (
.cond (.t 40) (
.seq (
.region [Q 4 (.mov (cb false))]) (
.ret)) (
.skip))))) (
.region [Q 41 (.bin .add .scalar (.t 22) (ci 1)),
V 22 41]))))))) (
.seq (
.region [Q 4 (.mov (cb true))]) (
.ret))))
def a245 : AFunc := ⟨c245, [.tmp 4], true⟩
def c246 : ACode :=
.seq (
.region [Q 2 (.mov (cb false))]) (
.seq (
.region [V 3 0,
Q 4 (.len .sl (.t 3)),
Q 5 (.bin .gtr .scalar (.t 4) (ci 0)),
V 6 5,
G 7 (.mov (.t 0)) 6 true,
G 8 (.len .sl (.t 7)) 6 true,
G 9 (.bin .leq .scalar (.t 8) (ci 40)) 6 true,
Q 10 (.pick (.t 6) (.t 9) (cb false)),
V 11 10,
G 12 (.mov (.t 0)) 11 true,
⟨some 13, .e (.callf 302 [(.t 12), (ci 0)]), some (11, true), 0⟩,
G 14 (.mov (.t 0)) 11 true,
G 15 (.len .sl (.t 14)) 11 true,
G 16 (.bin .eql .scalar (.t 13) (.t 15)) 11 true,
Q 17 (.pick (.t 11) (.t 16) (cb false)),
V 2 17]) (
.ret))
def a246 : AFunc := ⟨c246, [.tmp 2], true⟩
def c247 : ACode :=
.seq (
.region [Q 4 (.mov (.c (.one (dc (.sl [] true)))))]) (
.seq (
.region [Q 5 (.mov (.c (.one (dc (.sl [] true)))))]) (
.seq (
.seq (
.region [V 10 1,
Q 11 (.len .sl (.t 10)),
Q 12 (.mov (ci 0))]) (
.block 0 (
.loop (
.seq (
.region [Q 13 (.bin .lss .scalar (.t 12) (.t 11))]) (
.seq (
.cond (.t 13) (
.skip) (
.exit 0)) (
.seq (
.block 1 (
.seq (
.region [Q 14 (.iaddr 3 none (.t 10) (.t 12)),
Q 15 (.load true 3 (.t 14)),
M 7 (.alloc 162 3 zl6),
S 3 7 15]) (
.seq (
.region [Q 16 (.faddr 2 (.t 7)),
Q 17 (.load false 1 (.t 16)),
Q 18 (.len .sl (.t 17)),
Q 19 (.mov (ci 0))]) (
.block 2 (
.loop (
.seq (
.region [Q 20 (.bin .lss .scalar (.t 19) (.t 18))]) (
.seq (
.cond (.t 20) (
.skip) (
.exit 2)) (
.seq (
.block 3 (
.seq (
.region [Q 21 (.iaddr 3 none (.t 17) (.t 19)),
Q 22 (.load true 3 (.t 21)),
M 9 (.alloc 98 3 zl6),
S 3 9 22]) (
.region [V 23 5,
V 24 0,
Q 25 (.faddr 0 (.t 7)),
Q 26 (.load true 2 (.t 25)),
Q 27 (.faddr 0 (.t 9)),
Q 28 (.load true 2 (.t 27)),
Q 29 (.faddr 2 (.t 9)),
Q 30 (.load false 1 (.t 29)),
Q 31 (.build zl27 [(0, 1, (.t 24)), (1, 2, (.t 26)), (3, 2, (.t 28)), (5, 1, (.t 30))]),
M 32 (.bslice 209 6 1 zl27 [(0, 6, (.t 31))]),
E 33 (.append 209 6 72 (.t 23) (.t 32)),
V 5 33]))) (
.region [Q 34 (.bin .add .scalar (.t 19) (ci 1)),
V 19 34]))))))))) (
.region [Q 35 (.bin .add .scalar (.t 12) (ci 1)),
V 12 35]))))))) (
.seq (
.region [V 36 5,
V 4 36]) (
.ret))))
def a247 : AFunc := ⟨c247, [.tmp 4], true⟩
def c248 : ACode :=
.seq (
.region [Q 2 (.mov (ci 0))]) (
.seq (
.seq (
.region [V 3 0,
Q 4 (.bin .eql .scalar (.t 3) (ci (-1)))]) (
.cond (.t 4) (
.seq (
.region [Q 2 (.mov (ci (-1)))]) (
.ret)) (
.skip))) (
.seq (
.region [V 5 0,
Q 6 (.bin .sub .scalar (ci 1) (.t 5)),
V 2 6]) (
.ret)))
def a248 : AFunc := ⟨c248, [.tmp 2], true⟩
def c249 : ACode :=
.seq (
.region [Q 4 (.mov (ci 0))]) (
.seq (
.block 0 (
.seq (
.region [V 6 0,
Q 7 (.bin .eql .scalar (.t 6) (ci 0)),
V 8 7,
G 9 (.mov (.t 1)) 8 false,
G 10 (.bin .eql .scalar (.t 9) (ci 0)) 8 false,
Q 11 (.pick (.t 8) (cb true) (.t 10)),
V 5 11]) (
.cond (.t 5) (
.seq (
.region [Q 4 (.mov (ci 0))]) (
.ret)) (
.seq (
.region [V 13 0,
Q 14 (.bin .eql .scalar (.t 13) (ci (-1))),
V 15 14,
G 16 (.mov (.t 1)) 15 false,
G 17 (.bin .eql .scalar (.t 16) (ci (-1))) 15 false,
Q 18 (.pick (.t 15) (cb true) (.t 17)),
V 12 18]) (
.cond (.t 12) (
.seq (
.region [Q 4 (.mov (ci (-1)))]) (
.ret)) (
.skip)))))) (
.seq (
.region [Q 4 (.mov (ci 1))]) (
.ret)))
def a249 : AFunc := ⟨c249, [.tmp 4], true⟩
def c250 : ACode :=
.seq (
.region [M 2 (.box 294 6 (.t 0)),
M 3 (.box 128 4 (.t 1)),
Q 4 (.mov (ci 0))]) (
.seq (
.region [Q 7 (.faddr 0 (.t 3)),
Q 8 (.load false 1 (.t 7)),
Q 9 (.bin .eql .scalar (.t 8) (ci 0)),
V 5 9]) (
.seq (
.block 0 (
.seq (
.region [Q 11 (.faddr 0 (.t 2)),
Q 12 (.load false 1 (.t 11)),
Q 13 (.bin .eql .scalar (.t 12) (ci 7)),
V 10 13]) (
.cond (.t 10) (
.seq (
.region [V 14 5,
E 15 (.callf 303 [(.t 14)]),
V 4 15]) (
.ret)) (
.seq (
.region [Q 17 (.faddr 0 (.t 2)),
Q 18 (.load false 1 (.t 17)),
Q 19 (.bin .eql .scalar (.t 18) (ci 8)),
V 16 19]) (
.cond (.t 16) (
.seq (
.region [V 20 5,
Q 21 (.un .not (.t 20)),
E 22 (.callf 303 [(.t 21)]),
V 4 22]) (
.ret)) (
.seq (
.region [V 24 5,
V 25 24,
G 26 (.faddr 2 (.t 2)) 25 false,
G 27 (.faddr 0 (.t 26)) 25 false,
G 28 (.load false 1 (.t 27)) 25 false,
G 29 (.bin .eql .scalar (.t 28) (ci 0)) 25 false,
Q 30 (.pick (.t 25) (cb true) (.t 29)),
V 23 30]) (
.cond (.t 23) (
.seq (
.region [Q 4 (.mov (ci (-1)))]) (
.ret)) (
.skip)))))))) (
.seq (
.region [Q 31 (.load true 4 (.t 3)),
Q 32 (.faddr 2 (.t 2)),
Q 33 (.load true 4 (.t 32)),
E 34 (.callf 304 [(.t 31), (.t 33)]),
V 6 34]) (
.seq (
.region [V 35 6,
Q 36 (.bin .eql .scalar (.t 35) (ci 0)),
V 37 6,
Q 38 (.bin .neq .scalar (.t 37) (ci 0)),
V 39 6,
Q 40 (.bin .lss .scalar (.t 39) (ci 0)),
V 41 6,
Q 42 (.bin .leq .scalar (.t 41) (ci 0)),
V 43 6,
Q 44 (.bin .gtr .scalar (.t 43) (ci 0)),
V 45 6,
Q 46 (.bin .geq .scalar (.t 45) (ci 0)),
Q 47 (.build zl0 [(1, 1, (.t 36)), (2, 1, (.t 38)), (3, 1, (.t 40)), (4, 1, (.t 42)), (5, 1, (.t 44)), (6, 1, (.t 46))]),
Q 48 (.faddr 0 (.t 2)),
Q 49 (.load false 1 (.t 48)),
Q 50 (.aidx false 7 1 (.t 47) (.t 49)),
E 51 (.callf 303 [(.t 50)]),
V 4 51]) (
.ret)))))
def a250 : AFunc := ⟨c250, [.tmp 4], true⟩
def c251 : ACode :=
.seq (
.region [Q 4 (.mov (ci 0))]) (
.seq (
.region [V 8 0,
V 9 1,
E 10 (.callf 191 [(.t 8), (.t 9)]),
V 7 10,
Q 11 (.extract 0 (.t 7)),
Q 12 (.extract 1 (.t 7)),
V 5 11,
V 6 12]) (
.seq (
.seq (
.region [V 13 6,
Q 14 (.bin .neq .scalar (.t 13) (ci 0))]) (
.cond (.t 14) (
.seq (
.region [V 15 6,
V 4 15]) (
.ret)) (
.skip))) (
.seq (
.region [V 16 0,
V 17 0,
E 18 (.callf 211 [(.t 17)]),
E 19 (.callf 190 [(.t 16), (.t 18)])]) (
.seq (
.draw [W 0 20 0 0,
D 1 21 (.nilck (.t 20)) 1,
D 2 22 (.faddr 0 (.t 21)) 3,
D 3 23 (.load false 1 (.t 22)) 7,
⟨4, ⟨some 24, .m (.bslice 5 1 1 [dc (.int .u8 0)] [(0, 1, (.c (.one (dc (.int .u8 82)))))]), none, 0⟩⟩,
D 5 25 (.conv .b2s (.t 24)) 16,
W 6 26 5 0,
⟨7, ⟨some 27, .e (.callf 257 [(.t 26)]), none, 64⟩⟩,
D 8 28 (.bin .add .scalar (.t 25) (.t 27)) 240,
⟨9, ⟨some 29, .e (.callf 198 [(.t 23), (ci 1), (.t 28)]), none, 511⟩⟩]) (
.seq (
.region [Q 4 (.mov (ci 0))]) (
.ret))))))
def a251 : AFunc := ⟨c251, [.tmp 4], false⟩
def c252 : ACode :=
.seq (
.region [Q 4 (.mov (.c (.one (dc (.sl [] true))))),
Q 5 (.mov (cs [])),
Q 6 (.mov (ci 0))]) (
.seq (
.block 0 (
.seq (
.region [V 15 0,
E 16 (.callf 210 [(.t 15)]),
Q 17 (.un .not (.t 16)),
V 14 17]) (
.cond (.t 14) (
.seq (
.region [Q 4 (.mov (.c (.one (dc (.sl [] true))))),
Q 5 (.mov (cs [])),
Q 6 (.mov (ci 13))]) (
.ret)) (
.seq (
.region [V 19 0,
V 20 1,
E 21 (.callf 305 [(.t 19), (.t 20)]),
Q 22 (.un .not (.t 21)),
V 18 22]) (
.cond (.t 18) (
.seq (
.region [Q 4 (.mov (.c (.one (dc (.sl [] true))))),
Q 5 (.mov (cs [])),
Q 6 (.mov (ci 4))]) (
.ret)) (
.skip)))))) (
.seq (
.region [Q 7 (.mov (.c (.one (dc (.sl [] true)))))]) (
.seq (
.region [Q 8 (.mov (cs []))]) (
.seq (
.seq (
.region [V 23 1,
V 9 23]) (
.block 1 (
.loop (
.seq (
.seq (
.region [V 24 9,
Q 25 (.bin .neq .scalar (.t 24) (ci 0))]) (
.cond (.t 25) (
.skip) (
.exit 1))) (
.block 2 (
.seq (
.seq (
.region [V 26 0,
V 27 9,
E 28 (.callf 305 [(.t 26), (.t 27)]),
Q 29 (.un .not (.t 28)),
V 30 29,
G 31 (.mov (.t 7)) 30 false,
G 32 (.len .sl (.t 31)) 30 false,
G 33 (.mov (.t 0)) 30 false,
G 34 (.nilck (.t 33)) 30 false,
G 35 (.faddr 0 (.t 34)) 30 false,
G 36 (.load false 1 (.t 35)) 30 false,
⟨some 37, .e (.callf 195 [(.t 36)]), some (30, false), 0⟩,
G 38 (.bin .gtr .scalar (.t 32) (.t 37)) 30 false,
Q 39 (.pick (.t 30) (cb true) (.t 38))]) (
.cond (.t 39) (
.seq (
.region [Q 4 (.mov (.c (.one (dc (.sl [] true))))),
Q 5 (.mov (cs [])),
Q 6 (.mov (ci 7))]) (
.ret)) (
.skip))) (
.seq (
.region [V 41 0,
Q 42 (.nilck (.t 41)),
Q 43 (.faddr 0 (.t 42)),
Q 44 (.load false 1 (.t 43)),
V 45 9,
E 46 (.callf 199 [(.t 44), (.t 45)]),
V 40 46,
Q 47 (.extract 0 (.t 40)),
Q 48 (.extract 1 (.t 40)),
V 10 47,
V 11 48]) (
.seq (
.draw [W 0 49 10 0,
D 1 50 (.sidx (.t 49) (ci 0)) 1,
W 2 51 10 0,
D 3 52 (.sidx (.t 51) (ci 1)) 4,
W 5 54 10 0,
D 6 55 (.sidx (.t 54) (ci 2)) 32,
D 7 56 (.conv (.int .i64) (.t 55)) 96,
⟨4, ⟨some 53, .e (.callf 280 [(.t 50), (.t 52)]), none, 15⟩⟩,
W 8 12 53 31,
W 9 13 56 511]) (
.seq (
.seq (
.region [V 57 13,
Q 58 (.bin .gtr .scalar (.t 57) (ci 125)),
V 59 58,
G 60 (.mov (.t 12)) 59 false,
G 61 (.bin .gtr .scalar (.t 60) (ci 0)) 59 false,
G 62 (.mov (.t 61)) 59 false,
G 63 (.mov (.t 13)) 62 true,
G 64 (.bin .lss .scalar (.t 63) (ci 125)) 62 true,
G 65 (.pick (.t 62) (.t 64) (cb false)) 59 false,
Q 66 (.pick (.t 59) (cb true) (.t 65))]) (
.cond (.t 66) (
.seq (
.region [Q 4 (.mov (.c (.one (dc (.sl [] true))))),
Q 5 (.mov (cs [])),
Q 6 (.mov (ci 7))]) (
.ret)) (
.skip))) (
.seq (
.region [V 67 7,
V 68 9,
M 69 (.bslice 3 1 1 [dc (.int .i64 0)] [(0, 1, (.t 68))]),
E 70 (.append 3 1 8 (.t 67) (.t 69)),
V 7 70]) (
.seq (
.region [V 71 8,
V 72 10,
V 73 13,
Q 74 (.bin .add .scalar (ci 3) (.t 73)),
Q 75 (.sslice (.t 72) (some (ci 3)) (some (.t 74))),
Q 76 (.bin .add .scalar (.t 71) (.t 75)),
V 8 76]) (
.region [V 77 12,
V 9 77])))))))))))) (
.seq (
.region [V 78 7,
V 79 8,
V 4 78,
V 5 79,
Q 6 (.mov (ci 0))]) (
.ret))))))
def a252 : AFunc := ⟨c252, [.tmp 4, .tmp 5, .tmp 6], false⟩
def c253 : ACode :=
.seq (
.region [Q 4 (.mov (ci 0))]) (
.seq (
.region [V 6 0,
V 7 1,
E 8 (.callf 263 [(.t 6), (.t 7)]),
V 5 8]) (
.seq (
.block 0 (
.seq (
.region [V 10 5,
Q 11 (.bin .neq .scalar (.t 10) (ci 0)),
V 9 11]) (
.cond (.t 9) (
.seq (
.region [V 12 5,
V 4 12]) (
.ret)) (
.seq (
.region [V 14 1,
Q 15 (.bin .eql .scalar (.t 14) (ci 0)),
V 13 15]) (
.cond (.t 13) (
.seq (
.region [Q 4 (.mov (ci 1))]) (
.ret)) (
.seq (
.region [V 17 0,
V 18 1,
E 19 (.callf 196 [(.t 17), (.t 18)]),
V 16 19]) (
.cond (.t 16) (
.seq (
.region [Q 4 (.mov (ci 6))]) (
.ret)) (
.skip)))))))) (
.seq (
.region [V 20 0,
V 21 1,
E 22 (.callf 265 [(.t 20), (.t 21)])]) (
.seq (
.region [Q 4 (.mov (ci 0))]) (
.ret)))))
def a253 : AFunc := ⟨c253, [.tmp 4], false⟩
def c254 : ACode :=
.seq (
.region [Q 2 (.mov (ci 0))]) (
.seq (
.region [Q 3 (.mov (ci 0))]) (
.seq (
.seq (
.region [V 5 0,
E 6 (.callf 195 [(.t 5)]),
Q 7 (.mov (ci 0))]) (
.block 0 (
.loop (
.seq (
.region [Q 8 (.bin .lss .scalar (.t 7) (.t 6))]) (
.seq (
.cond (.t 8) (
.skip) (
.exit 0)) (
.seq (
.block 1 (
.seq (
.region [V 9 7,
V 4 9]) (
.seq (
.region [V 10 0,
V 11 4,
E 12 (.callf 196 [(.t 10), (.t 11)])]) (
.cond (.t 12) (
.region [V 13 3,
Q 14 (.bin .add .scalar (.t 13) (ci 1)),
V 3 14]) (
.skip))))) (
.region [Q 15 (.bin .add .scalar (.t 7) (ci 1)),
V 7 15]))))))) (
.seq (
.region [V 16 3,
V 2 16]) (
.ret))))
def a254 : AFunc := ⟨c254, [.tmp 2], false⟩
def c255 : ACode :=
.seq (
.region [Q 4 (.mov (ci 0))]) (
.seq (
.seq (
.region [V 5 1,
Q 6 (.bin .lss .scalar (.t 5) (ci 0)),
V 7 6,
G 8 (.mov (.t 1)) 7 false,
G 9 (.bin .gtr .scalar (.t 8) (ci 100000)) 7 false,
Q 10 (.pick (.t 7) (cb true) (.t 9))]) (
.cond (.t 10) (
.seq (
.region [Q 4 (.mov (ci 0))]) (
.ret)) (
.skip))) (
.seq (
.region [V 11 1,
Q 12 (.bin .add .scalar (.t 11) (ci 125)),
Q 13 (.bin .sub .scalar (.t 12) (ci 1)),
Q 14 (.bin .quo .scalar (.t 13) (ci 125)),
Q 15 (.mnmx true (ci 1) (.t 14)),
V 4 15]) (
.ret)))
def a255 : AFunc := ⟨c255, [.tmp 4], false⟩
def c256 : ACode :=
.seq (
.region [Q 4 (.mov (.c (.one (dc (.sl [] true)))))]) (
.seq (
.region [V 8 1,
M 9 (.s2b 5 (.t 8)),
V 5 9]) (
.seq (
.region [Q 6 (.mov (.c (.one (dc (.sl [] true)))))]) (
.seq (
.seq (
.region [V 10 0,
V 11 1,
Q 12 (.len .str (.t 11)),
E 13 (.callf 255 [(.t 10), (.t 12)]),
Q 14 (.mov (ci 0))]) (
.block 0 (
.loop (
.seq (
.region [Q 15 (.bin .lss .scalar (.t 14) (.t 13))]) (
.seq (
.cond (.t 15) (
.skip) (
.exit 0)) (
.seq (
.block 1 (
.seq (
.region [V 16 5,
Q 17 (.len .sl (.t 16)),
Q 18 (.mnmx false (ci 125) (.t 17)),
V 7 18]) (
.seq (
.region [V 19 6,
V 20 5,
V 21 7,
V 22 7,
Q 23 (.slice 1 (.t 20) none (some (.t 21)) (some (.t 22))),
M 24 (.bslice 192 1 1 [dc (.sl [] true)] [(0, 1, (.t 23))]),
E 25 (.append 192 1 24 (.t 19) (.t 24)),
V 6 25]) (
.region [V 26 5,
V 27 7,
Q 28 (.slice 1 (.t 26) (some (.t 27)) none none),
V 5 28])))) (
.region [Q 29 (.bin .add .scalar (.t 14) (ci 1)),
V 14 29]))))))) (
.seq (
.region [V 30 6,
V 4 30]) (
.ret)))))
def a256 : AFunc := ⟨c256, [.tmp 4], false⟩
def c257 : ACode :=
.seq (
.region [Q 2 (.mov (cs []))]) (
.seq (
.region [V 3 0,
Q 4 (.bin .quo .scalar (.t 3) (ci 256)),
Q 5 (.conv (.int .u8) (.t 4)),
V 6 0,
Q 7 (.bin .rem .scalar (.t 6) (ci 256)),
Q 8 (.conv (.int .u8) (.t 7)),
M 9 (.bslice 5 1 2 zl16 [(0, 1, (.t 5)), (1, 1, (.t 8))]),
Q 10 (.conv .b2s (.t 9)),
V 2 10]) (
.ret))
def a257 : AFunc := ⟨c257, [.tmp 2], false⟩
def c258 : ACode :=
.seq (
.region [Q 4 (.mov (ci 0)),
Q 5 (.mov (ci 0))]) (
.seq (
.draw [W 0 16 0 0,
D 1 17 (.nilck (.t 16)) 1,
D 2 18 (.faddr 0 (.t 17)) 3,
D 3 19 (.load false 1 (.t 18)) 7,
W 4 20 0 0,
D 5 21 (.nilck (.t 20)) 16,
D 6 22 (.faddr 1 (.t 21)) 48,
D 7 23 (.load false 1 (.t 22)) 112,
W 8 24 1 0,
D 9 25 (.bin .add .scalar (.t 23) (.t 24)) 496,
⟨10, ⟨some 26, .e (.callf 268 [(.t 19), (.t 25)]), none, 1023⟩⟩,
W 11 15 26 2047,
D 12 27 (.extract 0 (.t 15)) 4095,
D 13 28 (.extract 1 (.t 15)) 4095,
W 14 6 27 8191,
W 15 7 28 32767]) (
.seq (
.region [V 30 6,
E 31 (.callf 306 [(.t 30)]),
V 29 31,
Q 32 (.extract 0 (.t 29)),
Q 33 (.extract 1 (.t 29)),
V 8 32,
V 9 33]) (
.seq (
.region [V 35 8,
E 36 (.callf 307 [(.t 35), (cs [83])]),
V 34 36,
Q 37 (.extract 0 (.t 34)),
Q 38 (.extract 1 (.t 34)),
V 10 37,
V 11 38]) (
.seq (
.region [V 39 10,
E 40 (.callf 114 [(.t 39)]),
V 12 40]) (
.seq (
.region [V 41 12,
E 42 (.callf 160 [(.t 41)]),
V 13 42]) (
.seq (
.region [V 43 12,
E 44 (.callf 160 [(.t 43)]),
V 14 44]) (
.seq (
.seq (
.region [V 45 11,
Q 46 (.un .not (.t 45)),
V 47 46,
G 48 (.mov (.t 12)) 47 false,
⟨some 49, .e (.callf 119 [(.t 48)]), some (47, false), 0⟩,
G 50 (.bin .neq .scalar (.t 49) (ci 0)) 47 false,
Q 51 (.pick (.t 47) (cb true) (.t 50)),
V 52 51,
G 53 (.mov (.t 12)) 52 false,
⟨some 54, .e (.callf 308 [(.t 53)]), some (52, false), 0⟩,
G 55 (.bin .gtr .scalar (.t 54) (ci 0)) 52 false,
Q 56 (.pick (.t 52) (cb true) (.t 55)),
V 57 56,
G 58 (.mov (.t 13)) 57 false,
G 59 (.bin .gtr .scalar (.t 58) (.c (.one (dc (.int .u64 1099511627776))))) 57 false,
Q 60 (.pick (.t 57) (cb true) (.t 59)),
V 61 60,
G 62 (.mov (.t 14)) 61 false,
G 63 (.mov (.t 13)) 61 false,
G 64 (.bin .gtr .scalar (.t 62) (.t 63)) 61 false,
Q 65 (.pick (.t 61) (cb true) (.t 64))]) (
.cond (.t 65) (
.seq (
.region [Q 4 (.mov (ci 0)),
Q 5 (.mov (ci 0))]) (
.ret)) (
.skip))) (
.seq (
.region [V 66 13,
Q 67 (.conv (.int .i64) (.t 66)),
V 68 14,
Q 69 (.conv (.int .i64) (.t 68)),
V 4 67,
V 5 69]) (
.ret)))))))))
def a258 : AFunc := ⟨c258, [.tmp 4, .tmp 5], false⟩
def c259 : ACode :=
.seq (
.draw [W 0 10 0 0,
D 1 11 (.nilck (.t 10)) 1,
D 2 12 (.faddr 4 (.t 11)) 3,
D 3 13 (.load false 1 (.t 12)) 7,
D 4 2 (.mov (cs [])) 0,
D 5 3 (.mov (cs [])) 16,
D 6 4 (.mov (ci 0)) 48,
W 7 5 13 127]) (
.seq (
.skip) (
.seq (
.region [Q 6 (.mov (ci 0))]) (
.block 0 (
.loop (
.seq (
.seq (
.region [V 14 6,
V 15 0,
Q 16 (.nilck (.t 15)),
Q 17 (.faddr 2 (.t 16)),
Q 18 (.load false 1 (.t 17)),
Q 19 (.bin .lss .scalar (.t 14) (.t 18))]) (
.cond (.t 19) (
.skip) (
.exit 0))) (
.seq (
.block 1 (
.seq (
.region [V 23 0,
V 24 6,
E 25 (.callf 309 [(.t 23), (.t 24)]),
V 22 25,
Q 26 (.extract 0 (.t 22)),
Q 27 (.extract 1 (.t 22)),
M 7 (.alloc 325 4 zl13),
S 4 7 26,
V 8 27]) (
.seq (
.region [V 28 6,
V 29 4,
Q 30 (.bin .eql .scalar (.t 28) (.t 29)),
V 9 30]) (
.seq (
.block 2 (
.seq (
.seq (
.region [V 32 8,
Q 33 (.un .not (.t 32)),
V 31 33]) (
.cond (.t 31) (
.skip) (
.seq (
.region [Q 34 (.faddr 0 (.t 7)),
Q 35 (.load false 1 (.t 34)),
V 36 5,
Q 37 (.bin .lss .scalar (.t 35) (.t 36)),
V 31 37]) (
.cond (.t 31) (
.skip) (
.draw [D 0 38 (.faddr 0 (.t 7)) 0,
D 1 39 (.load false 1 (.t 38)) 1,
W 2 40 0 0,
D 3 41 (.nilck (.t 40)) 4,
D 4 42 (.faddr 3 (.t 41)) 12,
D 5 43 (.load false 1 (.t 42)) 28,
D 6 44 (.bin .gtr .scalar (.t 39) (.t 43)) 63,
W 7 31 44 127]))))) (
.cond (.t 31) (
.exit 0) (
.seq (
.region [V 46 9,
Q 47 (.un .not (.t 46)),
V 48 47,
G 49 (.faddr 0 (.t 7)) 48 true,
G 50 (.load false 1 (.t 49)) 48 true,
G 51 (.mov (.t 5)) 48 true,
G 52 (.bin .neq .scalar (.t 50) (.t 51)) 48 true,
G 53 (.mov (.t 52)) 48 true,
G 54 (.faddr 1 (.t 7)) 53 false,
G 55 (.load false 1 (.t 54)) 53 false,
G 56 (.mov (.t 3)) 53 false,
G 57 (.bin .neq .scalar (.t 55) (.t 56)) 53 false,
G 58 (.pick (.t 53) (cb true) (.t 57)) 48 true,
G 59 (.mov (.t 58)) 48 true,
G 60 (.faddr 2 (.t 7)) 59 false,
G 61 (.load false 1 (.t 60)) 59 false,
G 62 (.bin .eql .scalar (.t 61) (cs [])) 59 false,
G 63 (.pick (.t 59) (cb true) (.t 62)) 48 true,
Q 64 (.pick (.t 48) (.t 63) (cb false)),
V 45 64]) (
.cond (.t 45) (
.exit 0) (
.skip)))))) (
.seq (
.draw [W 0 65 2 0,
D 1 66 (.faddr 2 (.t 7)) 0,
D 2 67 (.load false 1 (.t 66)) 2,
D 3 68 (.bin .add .scalar (.t 65) (.t 67)) 7,
D 4 69 (.faddr 1 (.t 7)) 0,
D 5 70 (.load false 1 (.t 69)) 16,
D 6 71 (.faddr 0 (.t 7)) 0,
D 7 72 (.load false 1 (.t 71)) 64,
W 8 2 68 15,
W 9 3 70 319,
W 10 5 72 1023]) (
.seq (
.seq (
.region [Q 73 (.faddr 3 (.t 7)),
Q 74 (.load false 1 (.t 73))]) (
.cond (.t 74) (
.exit 1) (
.skip))) (
.seq (
.seq (
.region [V 75 2,
E 76 (.callf 276 [(.t 75)]),
V 77 3,
Q 78 (.bin .neq .scalar (.t 76) (.t 77))]) (
.cond (.t 78) (
.exit 0) (
.skip))) (
.seq (
.region [V 79 0,
V 80 0,
Q 81 (.nilck (.t 80)),
Q 82 (.faddr 6 (.t 81)),
Q 83 (.load false 1 (.t 82)),
V 84 2,
M 85 (.bslice 9 1 1 [dc (.str [])] [(0, 1, (.t 84))]),
E 86 (.append 9 1 16 (.t 83) (.t 85)),
Q 87 (.nilck (.t 79)),
Q 88 (.faddr 6 (.t 87)),
S 1 88 86]) (
.seq (
.region [V 89 6,
Q 90 (.bin .add .scalar (.t 89) (ci 1)),
Q 2 (.mov (cs [])),
V 4 90]) (
.region [V 91 0,
V 92 4,
Q 93 (.nilck (.t 91)),
Q 94 (.faddr 5 (.t 93)),
S 1 94 92])))))))))) (
.region [V 20 6,
Q 21 (.bin .add .scalar (.t 20) (ci 1)),
V 6 21])))))))
def a259 : AFunc := ⟨c259, [], false⟩
def c260 : ACode :=
.seq (
.region [Q 4 (.mov (ci 0))]) (
.seq (
.region [V 8 0,
Q 9 (.nilck (.t 8)),
Q 10 (.faddr 3 (.t 9)),
Q 11 (.load false 1 (.t 10)),
Q 12 (.bin .add .scalar (.t 11) (ci 1)),
V 5 12]) (
.seq (
.seq (
.draw [W 0 13 0 0,
D 1 14 (.nilck (.t 13)) 1,
D 2 15 (.faddr 0 (.t 14)) 3,
D 3 16 (.load false 1 (.t 15)) 7,
W 4 17 0 0,
D 5 18 (.nilck (.t 17)) 16,
D 6 19 (.faddr 1 (.t 18)) 48,
D 7 20 (.load false 1 (.t 19)) 112,
W 8 21 5 0,
D 9 22 (.bin .rem .scalar (.t 21) (ci 2)) 256,
D 10 23 (.bin .add .scalar (.t 20) (.t 22)) 1008,
W 11 24 5 0,
W 14 27 1 0,
⟨12, ⟨some 25, .e (.callf 310 [(.t 24)]), none, 2048⟩⟩,
D 13 26 (.bin .add .scalar (cs [83]) (.t 25)) 6144,
⟨15, ⟨some 28, .e (.callf 310 [(.t 27)]), none, 22528⟩⟩,
D 16 29 (.bin .add .scalar (.t 26) (.t 28)) 63488,
⟨17, ⟨some 30, .e (.callf 274 [(.t 29)]), none, 129024⟩⟩,
⟨18, ⟨some 31, .e (.callf 273 [(.t 16), (.t 23), (.t 30)]), none, 262143⟩⟩,
W 19 6 31 524287]) (
.seq (
.region [V 32 6,
Q 33 (.bin .neq .scalar (.t 32) (ci 0))]) (
.cond (.t 33) (
.seq (
.region [V 34 6,
V 4 34]) (
.ret)) (
.skip)))) (
.seq (
.seq (
.region [V 35 0,
Q 36 (.nilck (.t 35)),
Q 37 (.faddr 0 (.t 36)),
Q 38 (.load false 1 (.t 37)),
E 39 (.callf 277 [(.t 38)]),
V 7 39]) (
.seq (
.region [V 40 7,
Q 41 (.bin .neq .scalar (.t 40) (ci 0))]) (
.cond (.t 41) (
.seq (
.region [V 42 7,
V 4 42]) (
.ret)) (
.skip)))) (
.seq (
.region [V 43 0,
V 44 0,
V 45 5,
V 46 1,
Q 47 (.nilck (.t 43)),
Q 48 (.faddr 3 (.t 47)),
S 1 48 45,
Q 49 (.nilck (.t 44)),
Q 50 (.faddr 4 (.t 49)),
S 1 50 46]) (
.seq (
.region [Q 4 (.mov (ci 0))]) (
.ret))))))
def a260 : AFunc := ⟨c260, [.tmp 4], false⟩
def c261 : ACode :=
.seq (
.region [Q 2 (.mov (.c (.one (dc (.sl [] true)))))]) (
.seq (
.seq (
.region [V 3 0,
Q 4 (.bin .eql .ptr (.t 3) (.c (.one (dc (.nilp)))))]) (
.cond (.t 4) (
.seq (
.region [Q 2 (.mov (.c (.one (dc (.sl [] true)))))]) (
.ret)) (
.skip))) (
.seq (
.region [V 5 0,
Q 6 (.nilck (.t 5)),
Q 7 (.faddr 6 (.t 6)),
Q 8 (.load false 1 (.t 7)),
E 9 (.append 9 1 16 (.c (.one (dc (.sl [] true)))) (.t 8)),
V 2 9]) (
.ret)))
def a261 : AFunc := ⟨c261, [.tmp 2], false⟩
def c262 : ACode :=
.seq (
.region [Q 4 (.mov (.c (.one (dc (.nilm))))),
Q 5 (.mov (cb false))]) (
.seq (
.region [V 11 1,
E 12 (.callf 114 [(.t 11)]),
V 6 12]) (
.seq (
.region [M 13 (.mkmap (.int .i64)),
V 7 13]) (
.seq (
.seq (
.region [V 14 6,
E 15 (.callf 160 [(.t 14)]),
V 8 15]) (
.block 0 (
.loop (
.seq (
.seq (
.region [V 16 8,
Q 17 (.bin .gtr .scalar (.t 16) (.c (.one (dc (.int .u64 0))))),
V 18 17,
G 19 (.mov (.t 6)) 18 true,
⟨some 20, .e (.callf 119 [(.t 19)]), some (18, true), 0⟩,
G 21 (.bin .eql .scalar (.t 20) (ci 0)) 18 true,
Q 22 (.pick (.t 18) (.t 21) (cb false))]) (
.cond (.t 22) (
.skip) (
.exit 0))) (
.seq (
.block 1 (
.seq (
.region [V 25 6,
E 26 (.callf 160 [(.t 25)]),
V 27 6,
E 28 (.callf 162 [(.t 27)]),
V 9 26,
V 10 28]) (
.seq (
.seq (
.region [V 29 9,
V 30 0,
E 31 (.callf 195 [(.t 30)]),
Q 32 (.conv (.int .u64) (.t 31)),
Q 33 (.bin .geq .scalar (.t 29) (.t 32)),
V 34 33,
G 35 (.mov (.t 10)) 34 false,
G 36 (.len .str (.t 35)) 34 false,
G 37 (.bin .gtr .scalar (.t 36) (ci 128)) 34 false,
Q 38 (.pick (.t 34) (cb true) (.t 37))]) (
.cond (.t 38) (
.seq (
.region [Q 4 (.mov (.c (.one (dc (.nilm))))),
Q 5 (.mov (cb false))]) (
.ret)) (
.skip))) (
.region [V 39 7,
V 40 9,
Q 41 (.conv (.int .i64) (.t 40)),
V 42 10,
E 43 (.callf 267 [(.t 42)]),
⟨none, .e (.mapup (.int .i64) (.t 39) (.t 41) (.t 43)), none, 0⟩])))) (
.region [V 23 8,
Q 24 (.bin .sub .scalar (.t 23) (.c (.one (dc (.int .u64 1))))),
V 8 24])))))) (
.seq (
.region [V 44 7,
V 45 0,
V 46 7,
E 47 (.callf 201 [(.t 45), (.t 46)]),
V 48 1,
Q 49 (.bin .eql .scalar (.t 47) (.t 48)),
V 4 44,
V 5 49]) (
.ret)))))
def a262 : AFunc := ⟨c262, [.tmp 4, .tmp 5], false⟩
def c263 : ACode :=
.seq (
.region [Q 4 (.mov (ci 0))]) (
.seq (
.block 0 (
.seq (
.region [V 6 0,
E 7 (.callf 200 [(.t 6)]),
Q 8 (.un .not (.t 7)),
V 5 8]) (
.cond (.t 5) (
.seq (
.region [Q 4 (.mov (ci 13))]) (
.ret)) (
.seq (
.region [V 10 1,
Q 11 (.bin .lss .scalar (.t 10) (ci 0)),
V 12 11,
G 13 (.mov (.t 1)) 12 false,
G 14 (.mov (.t 0)) 12 false,
⟨some 15, .e (.callf 195 [(.t 14)]), some (12, false), 0⟩,
G 16 (.bin .geq .scalar (.t 13) (.t 15)) 12 false,
Q 17 (.pick (.t 12) (cb true) (.t 16)),
V 9 17]) (
.cond (.t 9) (
.seq (
.region [Q 4 (.mov (ci 2))]) (
.ret)) (
.skip)))))) (
.seq (
.region [Q 4 (.mov (ci 0))]) (
.ret)))
def a263 : AFunc := ⟨c263, [.tmp 4], false⟩
def c264 : ACode :=
.seq (
.region [Q 2 (.mov (.c (.one (dc (.int .u8 0)))))]) (
.seq (
.region [V 3 0,
Q 4 (.bin .rem .scalar (.t 3) (ci 8)),
Q 5 (.bin .shl .scalar (.c (.one (dc (.int .u8 1)))) (.t 4)),
V 2 5]) (
.ret))
def a264 : AFunc := ⟨c264, [.tmp 2], false⟩
def c265 : ACode :=
.seq (
.region [V 8 0,
E 9 (.callf 199 [(.t 8), (ci 0)]),
V 7 9,
Q 10 (.extract 0 (.t 7)),
Q 11 (.extract 1 (.t 7)),
V 4 10,
V 5 11]) (
.seq (
.region [V 12 4,
M 13 (.s2b 5 (.t 12)),
V 6 13]) (
.seq (
.draw [W 0 14 6 0,
W 1 15 1 0,
D 2 16 (.bin .quo .scalar (.t 15) (ci 8)) 2,
D 3 17 (.iaddr 1 none (.t 14) (.t 16)) 7,
D 4 18 (.load false 1 (.t 17)) 15,
W 5 19 1 0,
⟨6, ⟨some 20, .e (.callf 264 [(.t 19)]), none, 32⟩⟩,
D 7 21 (.bin .xor .scalar (.t 18) (.t 20)) 127,
D 8 22 (.iaddr 1 none (.t 14) (.t 16)) 255,
⟨9, ⟨none, .e (.store 1 (.t 22) (.t 21)), none, 511⟩⟩]) (
.draw [W 0 23 0 0,
D 1 24 (.nilck (.t 23)) 1,
D 2 25 (.faddr 3 (.t 24)) 3,
D 3 26 (.load false 1 (.t 25)) 7,
W 4 27 6 0,
D 5 28 (.conv .b2s (.t 27)) 16,
⟨6, ⟨none, .e (.mapup (.int .i64) (.t 26) (ci 0) (.t 28)), none, 63⟩⟩])))
def a265 : AFunc := ⟨c265, [], false⟩
def c266 : ACode :=
.seq (
.region [Q 0 (.mov (cs []))]) (
.seq (
.region [M 1 (.mkslice 5 1 1 [dc (.int .u8 0)] (ci 128) (ci 128)),
Q 2 (.conv .b2s (.t 1)),
V 0 2]) (
.ret))
def a266 : AFunc := ⟨c266, [.tmp 0], false⟩
def c267 : ACode :=
.seq (
.region [Q 2 (.mov (cs []))]) (
.seq (
.region [V 3 0,
E 4 (.callf 266 []),
V 5 0,
Q 6 (.len .str (.t 5)),
Q 7 (.sslice (.t 4) (some (.t 6)) none),
Q 8 (.bin .add .scalar (.t 3) (.t 7)),
V 2 8]) (
.ret))
def a267 : AFunc := ⟨c267, [.tmp 2], false⟩
def c268 : ACode :=
.seq (
.region [Q 4 (.mov (cs [])),
Q 5 (.mov (ci 0))]) (
.seq (
.seq (
.region [V 10 0,
V 11 1,
E 12 (.callf 311 [(.t 10), (.t 11)]),
V 6 12]) (
.seq (
.region [V 13 6,
Q 14 (.bin .neq .scalar (.t 13) (ci 0))]) (
.cond (.t 14) (
.seq (
.region [V 15 6,
Q 4 (.mov (cs [])),
V 5 15]) (
.ret)) (
.skip)))) (
.seq (
.seq (
.region [V 16 0,
Q 17 (.nilck (.t 16)),
Q 18 (.faddr 2 (.t 17)),
Q 19 (.load false 1 (.t 18)),
Q 20 (.len .sl (.t 19)),
Q 21 (.bin .sub .scalar (.t 20) (ci 1)),
V 7 21]) (
.block 0 (
.loop (
.seq (
.seq (
.region [V 22 7,
Q 23 (.bin .geq .scalar (.t 22) (ci 0))]) (
.cond (.t 23) (
.skip) (
.exit 0))) (
.seq (
.block 1 (
.seq (
.region [V 26 0,
Q 27 (.nilck (.t 26)),
Q 28 (.faddr 2 (.t 27)),
Q 29 (.load false 1 (.t 28)),
V 30 7,
Q 31 (.iaddr 2 none (.t 29) (.t 30)),
Q 32 (.faddr 0 (.t 31)),
Q 33 (.load false 1 (.t 32)),
V 34 1,
Q 35 (.bin .eql .scalar (.t 33) (.t 34))]) (
.cond (.t 35) (
.seq (
.region [V 36 0,
Q 37 (.nilck (.t 36)),
Q 38 (.faddr 2 (.t 37)),
Q 39 (.load false 1 (.t 38)),
V 40 7,
Q 41 (.iaddr 2 none (.t 39) (.t 40)),
Q 42 (.faddr 1 (.t 41)),
Q 43 (.load false 1 (.t 42)),
V 4 43,
Q 5 (.mov (ci 0))]) (
.ret)) (
.skip)))) (
.region [V 24 7,
Q 25 (.bin .sub .scalar (.t 24) (ci 1)),
V 7 25])))))) (
.seq (
.region [V 45 0,
Q 46 (.nilck (.t 45)),
Q 47 (.faddr 1 (.t 46)),
Q 48 (.load false 1 (.t 47)),
V 49 1,
Q 50 (.lookup (.int .i64) (.one (dc (.str []))) true (.t 48) (.t 49)),
V 44 50,
Q 51 (.extract 0 (.t 44)),
Q 52 (.extract 1 (.t 44)),
V 8 51,
V 9 52]) (
.seq (
.seq (
.region [V 53 9,
Q 54 (.un .not (.t 53))]) (
.cond (.t 54) (
.seq (
.region [E 55 (.callf 192 []),
V 4 55,
Q 5 (.mov (ci 0))]) (
.ret)) (
.skip))) (
.seq (
.region [V 56 8,
V 4 56,
Q 5 (.mov (ci 0))]) (
.ret))))))
def a268 : AFunc := ⟨c268, [.tmp 4, .tmp 5], false⟩
def c269 : ACode :=
.seq (
.region [Q 2 (.mov (cs []))]) (
.seq (
.block 0 (
.loop (
.seq (
.seq (
.region [V 3 0,
Q 4 (.bin .neq .scalar (.t 3) (cs [])),
V 5 4,
G 6 (.mov (.t 0)) 5 true,
G 7 (.mov (.t 0)) 5 true,
G 8 (.len .str (.t 7)) 5 true,
G 9 (.bin .sub .scalar (.t 8) (ci 1)) 5 true,
G 10 (.sidx (.t 6) (.t 9)) 5 true,
G 11 (.bin .eql .scalar (.t 10) (.c (.one (dc (.int .u8 0))))) 5 true,
Q 12 (.pick (.t 5) (.t 11) (cb false))]) (
.cond (.t 12) (
.skip) (
.exit 0))) (
.block 1 (
.region [V 13 0,
V 14 0,
Q 15 (.len .str (.t 14)),
Q 16 (.bin .sub .scalar (.t 15) (ci 1)),
Q 17 (.sslice (.t 13) none (some (.t 16))),
V 0 17]))))) (
.seq (
.region [V 18 0,
V 2 18]) (
.ret)))
def a269 : AFunc := ⟨c269, [.tmp 2], false⟩
def c270 : ACode :=
.seq (
.region [Q 2 (.mov (ci 0))]) (
.seq (
.block 0 (
.seq (
.region [V 4 0,
Q 5 (.bin .eql .ptr (.t 4) (.c (.one (dc (.nilp))))),
V 6 5,
G 7 (.mov (.t 0)) 6 false,
G 8 (.nilck (.t 7)) 6 false,
G 9 (.faddr 0 (.t 8)) 6 false,
G 10 (.load false 1 (.t 9)) 6 false,
G 11 (.bin .eql .ptr (.t 10) (.c (.one (dc (.nilp))))) 6 false,
Q 12 (.pick (.t 6) (cb true) (.t 11)),
V 3 12]) (
.cond (.t 3) (
.seq (
.region [Q 2 (.mov (ci 13))]) (
.ret)) (
.seq (
.region [V 14 0,
Q 15 (.nilck (.t 14)),
Q 16 (.faddr 7 (.t 15)),
Q 17 (.load false 1 (.t 16)),
V 13 17]) (
.cond (.t 13) (
.seq (
.region [Q 2 (.mov (ci 6))]) (
.ret)) (
.skip)))))) (
.seq (
.region [Q 2 (.mov (ci 0))]) (
.ret)))
def a270 : AFunc := ⟨c270, [.tmp 2], false⟩
def c271 : ACode :=
.seq (
.region [Q 2 (.mov (.c (.one (dc (.sl [] true)))))]) (
.seq (
.region [Q 3 (.mov (.c (.one (dc (.sl [] true)))))]) (
.seq (
.block 0 (
.loop (
.seq (
.seq (
.region [V 4 0,
Q 5 (.len .str (.t 4)),
Q 6 (.bin .gtr .scalar (.t 5) (ci 100))]) (
.cond (.t 6) (
.skip) (
.exit 0))) (
.block 1 (
.seq (
.region [V 7 3,
V 8 0,
Q 9 (.sslice (.t 8) none (some (ci 100))),
M 10 (.bslice 9 1 1 [dc (.str [])] [(0, 1, (.t 9))]),
E 11 (.append 9 1 16 (.t 7) (.t 10)),
V 3 11]) (
.region [V 12 0,
Q 13 (.sslice (.t 12) (some (ci 100)) none),
V 0 13])))))) (
.seq (
.region [V 14 3,
V 15 0,
M 16 (.bslice 9 1 1 [dc (.str [])] [(0, 1, (.t 15))]),
E 17 (.append 9 1 16 (.t 14) (.t 16)),
V 2 17]) (
.ret))))
def a271 : AFunc := ⟨c271, [.tmp 2], false⟩
def c272 : ACode :=
.seq (
.region [Q 4 (.mov (ci 0))]) (
.seq (
.region [V 5 0,
V 6 0,
Q 7 (.nilck (.t 6)),
Q 8 (.faddr 7 (.t 7)),
Q 9 (.load false 1 (.t 8)),
V 10 9,
G 11 (.mov (.t 1)) 10 false,
G 12 (.bin .neq .scalar (.t 11) (ci 0)) 10 false,
Q 13 (.pick (.t 10) (cb true) (.t 12)),
Q 14 (.nilck (.t 5)),
Q 15 (.faddr 7 (.t 14)),
S 1 15 13]) (
.seq (
.region [V 16 1,
V 4 16]) (
.ret)))
def a272 : AFunc := ⟨c272, [.tmp 4], false⟩
def c273 : ACode :=
.seq (
.region [Q 6 (.mov (ci 0))]) (
.seq (
.region [V 8 0,
V 9 1,
E 10 (.callf 311 [(.t 8), (.t 9)]),
V 7 10]) (
.seq (
.block 0 (
.seq (
.region [V 12 7,
Q 13 (.bin .neq .scalar (.t 12) (ci 0)),
V 11 13]) (
.cond (.t 11) (
.seq (
.region [V 14 7,
V 6 14]) (
.ret)) (
.seq (
.region [V 16 2,
Q 17 (.len .str (.t 16)),
Q 18 (.bin .gtr .scalar (.t 17) (ci 128)),
V 15 18]) (
.cond (.t 15) (
.seq (
.region [Q 6 (.mov (ci 19))]) (
.ret)) (
.seq (
.region [V 20 0,
E 21 (.callf 312 [(.t 20)]),
V 19 21]) (
.cond (.t 19) (
.seq (
.region [Q 6 (.mov (ci 6))]) (
.ret)) (
.skip)))))))) (
.seq (
.region [V 22 0,
Q 23 (.nilck (.t 22)),
Q 24 (.faddr 6 (.t 23)),
Q 25 (.load false 1 (.t 24)),
Q 26 (.bin .sub .scalar (.t 25) (ci 1)),
Q 27 (.nilck (.t 22)),
Q 28 (.faddr 6 (.t 27)),
S 1 28 26]) (
.seq (
.draw [W 0 29 0 0,
W 1 30 0 0,
D 2 31 (.nilck (.t 30)) 2,
D 3 32 (.faddr 2 (.t 31)) 6,
D 4 33 (.load false 1 (.t 32)) 14,
W 5 34 1 0,
W 6 35 2 0,
W 8 37 2 0,
D 9 38 (.len .str (.t 37)) 256,
⟨7, ⟨some 36, .e (.callf 192 []), none, 0⟩⟩,
D 10 39 (.sslice (.t 36) (some (.t 38)) none) 896,
D 11 40 (.bin .add .scalar (.t 35) (.t 39)) 1984,
D 12 41 (.build zl14 [(0, 1, (.t 34)), (1, 1, (.t 40))]) 4064,
⟨13, ⟨some 42, .m (.bslice 219 2 1 zl14 [(0, 2, (.t 41))]), none, 8160⟩⟩,
⟨14, ⟨some 43, .e (.append 219 2 24 (.t 33) (.t 42)), none, 16382⟩⟩,
D 15 44 (.nilck (.t 29)) 32767,
D 16 45 (.faddr 2 (.t 44)) 65535,
⟨17, ⟨none, .e (.store 1 (.t 45) (.t 43)), none, 131071⟩⟩]) (
.seq (
.region [V 46 0,
Q 47 (.nilck (.t 46)),
Q 48 (.faddr 3 (.t 47)),
Q 49 (.load false 1 (.t 48)),
Q 50 (.bin .add .scalar (.t 49) (ci 1)),
Q 51 (.nilck (.t 46)),
Q 52 (.faddr 3 (.t 51)),
S 1 52 50]) (
.seq (
.region [Q 6 (.mov (ci 0))]) (
.ret)))))))
def a273 : AFunc := ⟨c273, [.tmp 6], false⟩
def c274 : ACode :=
.seq (
.region [Q 2 (.mov (cs []))]) (
.seq (
.seq (
.region [V 3 0,
Q 4 (.len .str (.t 3)),
Q 5 (.bin .gtr .scalar (.t 4) (ci 123))]) (
.cond (.t 5) (
.seq (
.region [Q 2 (.mov (cs []))]) (
.ret)) (
.skip))) (
.seq (
.draw [W 0 6 0 0,
D 1 7 (.len .str (.t 6)) 1,
D 2 8 (.conv (.int .u8) (.t 7)) 3,
⟨3, ⟨some 9, .m (.bslice 5 1 1 [dc (.int .u8 0)] [(0, 1, (.t 8))]), none, 7⟩⟩,
D 4 10 (.conv .b2s (.t 9)) 15,
W 5 11 0 0,
⟨6, ⟨some 12, .e (.callf 167 [(.t 11)]), none, 32⟩⟩,
D 7 13 (.bin .add .scalar (.t 10) (.t 12)) 127,
W 8 2 13 255]) (
.ret)))
def a274 : AFunc := ⟨c274, [.tmp 2], false⟩
def c275 : ACode :=
.seq (
.region [Q 6 (.mov (cs []))]) (
.seq (
.region [V 7 0,
E 8 (.callf 310 [(.t 7)]),
Q 9 (.bin .add .scalar (cs [76]) (.t 8)),
V 10 1,
E 11 (.callf 310 [(.t 10)]),
Q 12 (.bin .add .scalar (.t 9) (.t 11)),
V 13 2,
E 14 (.callf 310 [(.t 13)]),
Q 15 (.bin .add .scalar (.t 12) (.t 14)),
V 6 15]) (
.ret))
def a275 : AFunc := ⟨c275, [.tmp 6], false⟩
def c276 : ACode :=
.seq (
.region [Q 2 (.mov (cs []))]) (
.seq (
.region [V 3 0,
E 4 (.callf 167 [(.t 3)]),
V 5 0,
Q 6 (.len .str (.t 5)),
Q 7 (.sslice (.t 4) (some (.t 6)) none),
V 2 7]) (
.ret))
def a276 : AFunc := ⟨c276, [.tmp 2], false⟩
def c277 : ACode :=
.seq (
.region [Q 2 (.mov (ci 0))]) (
.seq (
.block 0 (
.seq (
.region [V 6 0,
E 7 (.callf 134 [(.t 6)]),
Q 8 (.bin .eql .scalar (.t 7) (ci 0)),
V 5 8]) (
.cond (.t 5) (
.seq (
.region [Q 2 (.mov (ci 13))]) (
.ret)) (
.seq (
.region [V 10 0,
E 11 (.callf 312 [(.t 10)]),
V 9 11]) (
.cond (.t 9) (
.seq (
.region [Q 2 (.mov (ci 6))]) (
.ret)) (
.skip)))))) (
.seq (
.region [V 12 0,
Q 13 (.nilck (.t 12)),
Q 14 (.faddr 6 (.t 13)),
Q 15 (.load false 1 (.t 14)),
Q 16 (.bin .sub .scalar (.t 15) (ci 1)),
Q 17 (.nilck (.t 12)),
Q 18 (.faddr 6 (.t 17)),
S 1 18 16]) (
.seq (
.seq (
.region [V 19 0,
Q 20 (.nilck (.t 19)),
Q 21 (.faddr 2 (.t 20)),
Q 22 (.load false 1 (.t 21)),
Q 23 (.len .sl (.t 22)),
Q 24 (.mov (ci 0))]) (
.block 1 (
.loop (
.seq (
.region [Q 25 (.bin .lss .scalar (.t 24) (.t 23))]) (
.seq (
.cond (.t 25) (
.skip) (
.exit 1)) (
.seq (
.block 2 (
.seq (
.region [Q 26 (.iaddr 2 none (.t 22) (.t 24)),
Q 27 (.load true 2 (.t 26)),
M 4 (.alloc 219 2 zl14),
S 2 4 27]) (
.region [V 28 0,
Q 29 (.load true 2 (.t 4)),
E 30 (.callf 135 [(.t 28), (.t 29)])]))) (
.region [Q 31 (.bin .add .scalar (.t 24) (ci 1)),
V 24 31]))))))) (
.seq (
.region [V 32 0,
Q 33 (.nilck (.t 32)),
Q 34 (.faddr 2 (.t 33)),
⟨none, .e (.store 1 (.t 34) (.c (.one (dc (.sl [] true))))), none, 0⟩]) (
.seq (
.region [V 35 0,
Q 36 (.nilck (.t 35)),
Q 37 (.faddr 4 (.t 36)),
Q 38 (.load false 1 (.t 37)),
Q 39 (.bin .add .scalar (.t 38) (ci 1)),
Q 40 (.nilck (.t 35)),
Q 41 (.faddr 4 (.t 40)),
S 1 41 39]) (
.seq (
.region [Q 2 (.mov (ci 0))]) (
.ret)))))))
def a277 : AFunc := ⟨c277, [.tmp 2], false⟩
def c278 : ACode :=
.seq (
.region [Q 2 (.mov (ci 0))]) (
.seq (
.seq (
.region [V 5 0,
E 6 (.callf 270 [(.t 5)]),
V 3 6]) (
.seq (
.region [V 7 3,
Q 8 (.bin .neq .scalar (.t 7) (ci 0))]) (
.cond (.t 8) (
.seq (
.region [V 9 3,
V 2 9]) (
.ret)) (
.skip)))) (
.seq (
.seq (
.region [V 10 0,
V 11 0,
V 12 0,
Q 13 (.nilck (.t 12)),
Q 14 (.faddr 3 (.t 13)),
Q 15 (.load false 1 (.t 14)),
Q 16 (.bin .add .scalar (.t 15) (ci 1)),
E 17 (.callf 260 [(.t 11), (.t 16)]),
E 18 (.callf 272 [(.t 10), (.t 17)]),
V 4 18]) (
.seq (
.region [V 19 4,
Q 20 (.bin .neq .scalar (.t 19) (ci 0))]) (
.cond (.t 20) (
.seq (
.region [V 21 4,
V 2 21]) (
.ret)) (
.skip)))) (
.seq (
.region [V 22 0,
V 23 0,
Q 24 (.nilck (.t 22)),
Q 25 (.faddr 5 (.t 24)),
⟨none, .e (.store 1 (.t 25) (ci 0)), none, 0⟩,
Q 26 (.nilck (.t 23)),
Q 27 (.faddr 6 (.t 26)),
⟨none, .e (.store 1 (.t 27) (.c (.one (dc (.sl [] true))))), none, 0⟩]) (
.seq (
.region [Q 2 (.mov (ci 0))]) (
.ret)))))
def a278 : AFunc := ⟨c278, [.tmp 2], false⟩
def c279 : ACode :=
.seq (
.region [Q 2 (.mov (.c (.one (dc (.sl [] true)))))]) (
.seq (
.seq (
.region [V 7 0,
E 8 (.callf 200 [(.t 7)]),
Q 9 (.un .not (.t 8))]) (
.cond (.t 9) (
.seq (
.region [Q 2 (.mov (.c (.one (dc (.sl [] true)))))]) (
.ret)) (
.skip))) (
.seq (
.region [Q 3 (.mov (.c (.one (dc (.sl [] true)))))]) (
.seq (
.seq (
.region [V 10 0,
E 11 (.callf 195 [(.t 10)]),
Q 12 (.mov (ci 0))]) (
.block 0 (
.loop (
.seq (
.region [Q 13 (.bin .lss .scalar (.t 12) (.t 11))]) (
.seq (
.cond (.t 13) (
.skip) (
.exit 0)) (
.seq (
.block 1 (
.seq (
.region [V 14 12,
V 4 14]) (
.seq (
.region [V 16 0,
Q 17 (.nilck (.t 16)),
Q 18 (.faddr 3 (.t 17)),
Q 19 (.load false 1 (.t 18)),
V 20 4,
Q 21 (.lookup (.int .i64) (.one (dc (.str []))) true (.t 19) (.t 20)),
V 15 21,
Q 22 (.extract 0 (.t 15)),
Q 23 (.extract 1 (.t 15)),
V 5 22,
V 6 23]) (
.seq (
.region [V 24 6]) (
.cond (.t 24) (
.region [V 25 3,
V 26 4,
M 27 (.bslice 3 1 1 [dc (.int .i64 0)] [(0, 1, (.t 26))]),
E 28 (.append 3 1 8 (.t 25) (.t 27)),
V 3 28]) (
.skip)))))) (
.region [Q 29 (.bin .add .scalar (.t 12) (ci 1)),
V 12 29]))))))) (
.seq (
.region [V 30 3,
V 2 30]) (
.ret)))))
def a279 : AFunc := ⟨c279, [.tmp 2], false⟩
def c280 : ACode :=
.seq (
.region [Q 4 (.mov (ci 0))]) (
.seq (
.region [V 5 0,
Q 6 (.conv (.int .i64) (.t 5)),
Q 7 (.bin .mul .scalar (ci 256) (.t 6)),
V 8 1,
Q 9 (.conv (.int .i64) (.t 8)),
Q 10 (.bin .add .scalar (.t 7) (.t 9)),
V 4 10]) (
.ret))
def a280 : AFunc := ⟨c280, [.tmp 4], false⟩
def c281 : ACode :=
.seq (
.region [Q 3 (.mov (cs []))]) (
.seq (
.region [Q 4 (.faddr 0 (.t 1)),
Q 5 (.load false 1 (.t 4)),
Q 6 (.bin .add .scalar (.t 5) (ci 1)),
Q 7 (.conv (.int .u8) (.t 6)),
M 8 (.bslice 5 1 1 [dc (.int .u8 0)] [(0, 1, (.t 7))]),
Q 9 (.conv .b2s (.t 8)),
V 10 0,
Q 11 (.bin .add .scalar (.t 9) (.t 10)),
V 3 11]) (
.ret))
def a281 : AFunc := ⟨c281, [.tmp 3], true⟩
def c282 : ACode :=
.seq (
.region [Q 2 (.mov (cs []))]) (
.seq (
.region [M 5 (.mkslice 5 1 1 [dc (.int .u8 0)] (ci 8) (ci 8)),
V 3 5]) (
.seq (
.seq (
.region [V 6 3,
Q 7 (.len .sl (.t 6)),
Q 8 (.mov (ci 0))]) (
.block 0 (
.loop (
.seq (
.region [Q 9 (.bin .lss .scalar (.t 8) (.t 7))]) (
.seq (
.cond (.t 9) (
.skip) (
.exit 0)) (
.seq (
.block 1 (
.seq (
.region [V 10 8,
V 4 10]) (
.region [V 11 3,
V 12 4,
V 13 0,
V 14 4,
Q 15 (.bin .sub .scalar (ci 7) (.t 14)),
Q 16 (.bin .mul .scalar (ci 8) (.t 15)),
Q 17 (.bin .shr .scalar (.t 13) (.t 16)),
Q 18 (.conv (.int .u8) (.t 17)),
Q 19 (.iaddr 1 none (.t 11) (.t 12)),
S 1 19 18]))) (
.region [Q 20 (.bin .add .scalar (.t 8) (ci 1)),
V 8 20]))))))) (
.seq (
.region [V 21 3,
Q 22 (.conv .b2s (.t 21)),
V 2 22]) (
.ret))))
def a282 : AFunc := ⟨c282, [.tmp 2], true⟩
def c283 : ACode :=
.seq (
.region [Q 2 (.mov (.c (.one (dc (.int .u64 0)))))]) (
.seq (
.seq (
.region [V 3 0,
Q 4 (.bin .and .scalar (.t 3) (.c (.one (dc (.int .u64 9223372036854775808))))),
Q 5 (.bin .gtr .scalar (.t 4) (.c (.one (dc (.int .u64 0)))))]) (
.cond (.t 5) (
.seq (
.region [V 6 0,
Q 7 (.un .xor (.t 6)),
V 2 7]) (
.ret)) (
.skip))) (
.seq (
.region [V 8 0,
Q 9 (.bin .or .scalar (.t 8) (.c (.one (dc (.int .u64 9223372036854775808))))),
V 2 9]) (
.ret)))
def a283 : AFunc := ⟨c283, [.tmp 2], true⟩
def c284 : ACode :=
.seq (
.region [Q 2 (.mov (cs []))]) (
.seq (
.region [V 5 0,
Q 6 (.len .str (.t 5)),
Q 7 (.bin .add .scalar (.t 6) (ci 2)),
M 8 (.mkslice 5 1 1 [dc (.int .u8 0)] (ci 0) (.t 7)),
V 3 8]) (
.seq (
.seq (
.region [V 9 0,
Q 10 (.len .str (.t 9)),
Q 11 (.mov (ci 0))]) (
.block 0 (
.loop (
.seq (
.region [Q 12 (.bin .lss .scalar (.t 11) (.t 10))]) (
.seq (
.cond (.t 12) (
.skip) (
.exit 0)) (
.seq (
.block 1 (
.seq (
.region [V 13 11,
V 4 13]) (
.seq (
.seq (
.region [V 14 0,
V 15 4,
Q 16 (.sidx (.t 14) (.t 15)),
Q 17 (.bin .eql .scalar (.t 16) (.c (.one (dc (.int .u8 0)))))]) (
.cond (.t 17) (
.seq (
.region [V 18 3,
E 19 (.append 5 1 1 (.t 18) (cs [0, 255])),
V 3 19]) (
.exit 1)) (
.skip))) (
.region [V 20 3,
V 21 0,
V 22 4,
Q 23 (.sidx (.t 21) (.t 22)),
M 24 (.bslice 5 1 1 [dc (.int .u8 0)] [(0, 1, (.t 23))]),
E 25 (.append 5 1 1 (.t 20) (.t 24)),
V 3 25])))) (
.region [Q 26 (.bin .add .scalar (.t 11) (ci 1)),
V 11 26]))))))) (
.seq (
.region [V 27 3,
E 28 (.append 5 1 1 (.t 27) (cs [0, 1])),
Q 29 (.conv .b2s (.t 28)),
V 2 29]) (
.ret))))
def a284 : AFunc := ⟨c284, [.tmp 2], true⟩
def c285 : ACode :=
.seq (
.region [Q 2 (.mov (cb false))]) (
.seq (
.region [V 3 0,
V 4 0,
Q 5 (.bin .neq .scalar (.t 3) (.t 4)),
V 2 5]) (
.ret))
def a285 : AFunc := ⟨c285, [.tmp 2], false⟩
def c287 : ACode :=
.seq (
.region [⟨some 7, .recov, none, 0⟩]) (
.block 0 (
.seq (
.region [Q 9 (.bin .eql .iface (.t 7) (.c (.one (dc (.nili)))))]) (
.cond (.t 9) (
.region [V 3 7]) (
.seq (
.region [Q 10 (.tas 317 (.agg [dc (.int .i64 0)]) true (.t 7)),
Q 11 (.extract 1 (.t 10)),
Q 12 (.extract 0 (.t 10))]) (
.cond (.t 11) (
.seq (
.region [M 4 (.alloc 317 1 [dc (.int .i64 0)]),
S 1 4 12]) (
.seq (
.region [Q 5 (.mov (.c (.one (dc (.int .u64 0)))))]) (
.draw [D 0 13 (.load false 1 (.t 2)) 0,
D 1 14 (.load false 1 (.t 2)) 0,
W 2 15 5 0,
D 3 16 (.load false 1 (.t 0)) 0,
D 4 17 (.faddr 0 (.t 4)) 0,
D 5 18 (.load false 1 (.t 17)) 16,
⟨6, ⟨none, .e (.store 1 (.t 1) (.t 15)), none, 15⟩⟩,
D 7 19 (.nilck (.t 13)) 79,
D 8 20 (.faddr 1 (.t 19)) 207,
⟨9, ⟨none, .e (.store 1 (.t 20) (.t 16)), none, 463⟩⟩,
D 10 21 (.nilck (.t 14)) 1023,
D 11 22 (.faddr 2 (.t 21)) 2047,
⟨12, ⟨none, .e (.store 1 (.t 22) (.t 18)), none, 4095⟩⟩]))) (
.seq (
.region [V 6 7]) (
.region [V 8 6,
⟨none, .e (.panic (.t 8)), none, 0⟩])))))))
def a287 : AFunc := ⟨c287, [], false⟩
def c288 : ACode :=
.seq (
.region [Q 2 (.mov (.c (.one (dc (.int .u8 0)))))]) (
.seq (
.seq (
.draw [W 0 3 0 0,
D 1 4 (.nilck (.t 3)) 1,
D 2 5 (.faddr 1 (.t 4)) 3,
D 3 6 (.load false 1 (.t 5)) 7,
W 4 7 0 0,
D 5 8 (.nilck (.t 7)) 16,
D 6 9 (.faddr 0 (.t 8)) 48,
D 7 10 (.load false 1 (.t 9)) 112,
D 8 11 (.len .str (.t 10)) 240,
D 9 12 (.bin .geq .scalar (.t 6) (.t 11)) 511]) (
.cond (.t 12) (
.region [Q 13 (.build [dc (.int .i64 0)] [(0, 1, (ci 8))]),
Q 14 (.mkif 317 (.t 13)),
⟨none, .e (.panic (.t 14)), none, 0⟩]) (
.skip))) (
.seq (
.region [V 15 0,
Q 16 (.nilck (.t 15)),
Q 17 (.faddr 1 (.t 16)),
Q 18 (.load false 1 (.t 17)),
Q 19 (.bin .add .scalar (.t 18) (ci 1)),
Q 20 (.nilck (.t 15)),
Q 21 (.faddr 1 (.t 20)),
S 1 21 19]) (
.seq (
.draw [W 0 22 0 0,
D 1 23 (.nilck (.t 22)) 1,
D 2 24 (.faddr 0 (.t 23)) 3,
D 3 25 (.load false 1 (.t 24)) 7,
W 4 26 0 0,
D 5 27 (.nilck (.t 26)) 16,
D 6 28 (.faddr 1 (.t 27)) 48,
D 7 29 (.load false 1 (.t 28)) 112,
D 8 30 (.bin .sub .scalar (.t 29) (ci 1)) 240,
D 9 31 (.sidx (.t 25) (.t 30)) 511,
W 10 2 31 1023]) (
.ret))))
def a288 : AFunc := ⟨c288, [.tmp 2], false⟩
def c289 : ACode :=
.seq (
.region [⟨some 7, .recov, none, 0⟩]) (
.block 0 (
.seq (
.region [Q 9 (.bin .eql .iface (.t 7) (.c (.one (dc (.nili)))))]) (
.cond (.t 9) (
.region [V 3 7]) (
.seq (
.region [Q 10 (.tas 317 (.agg [dc (.int .i64 0)]) true (.t 7)),
Q 11 (.extract 1 (.t 10)),
Q 12 (.extract 0 (.t 10))]) (
.cond (.t 11) (
.seq (
.region [M 4 (.alloc 317 1 [dc (.int .i64 0)]),
S 1 4 12]) (
.seq (
.region [Q 5 (.mov (cs []))]) (
.draw [D 0 13 (.load false 1 (.t 2)) 0,
D 1 14 (.load false 1 (.t 2)) 0,
W 2 15 5 0,
D 3 16 (.load false 1 (.t 0)) 0,
D 4 17 (.faddr 0 (.t 4)) 0,
D 5 18 (.load false 1 (.t 17)) 16,
⟨6, ⟨none, .e (.store 1 (.t 1) (.t 15)), none, 15⟩⟩,
D 7 19 (.nilck (.t 13)) 79,
D 8 20 (.faddr 1 (.t 19)) 207,
⟨9, ⟨none, .e (.store 1 (.t 20) (.t 16)), none, 463⟩⟩,
D 10 21 (.nilck (.t 14)) 1023,
D 11 22 (.faddr 2 (.t 21)) 2047,
⟨12, ⟨none, .e (.store 1 (.t 22) (.t 18)), none, 4095⟩⟩]))) (
.seq (
.region [V 6 7]) (
.region [V 8 6,
⟨none, .e (.panic (.t 8)), none, 0⟩])))))))
def a289 : AFunc := ⟨c289, [], false⟩
def c290 : ACode :=
.seq (
.region [⟨some 7, .recov, none, 0⟩]) (
.block 0 (
.seq (
.region [Q 9 (.bin .eql .iface (.t 7) (.c (.one (dc (.nili)))))]) (
.cond (.t 9) (
.region [V 3 7]) (
.seq (
.region [Q 10 (.tas 317 (.agg [dc (.int .i64 0)]) true (.t 7)),
Q 11 (.extract 1 (.t 10)),
Q 12 (.extract 0 (.t 10))]) (
.cond (.t 11) (
.seq (
.region [M 4 (.alloc 317 1 [dc (.int .i64 0)]),
S 1 4 12]) (
.seq (
.region [Q 5 (.mov (.c (.one (dc (.sl [] true)))))]) (
.draw [D 0 13 (.load false 1 (.t 2)) 0,
D 1 14 (.load false 1 (.t 2)) 0,
W 2 15 5 0,
D 3 16 (.load false 1 (.t 0)) 0,
D 4 17 (.faddr 0 (.t 4)) 0,
D 5 18 (.load false 1 (.t 17)) 16,
⟨6, ⟨none, .e (.store 1 (.t 1) (.t 15)), none, 15⟩⟩,
D 7 19 (.nilck (.t 13)) 79,
D 8 20 (.faddr 1 (.t 19)) 207,
⟨9, ⟨none, .e (.store 1 (.t 20) (.t 16)), none, 463⟩⟩,
D 10 21 (.nilck (.t 14)) 1023,
D 11 22 (.faddr 2 (.t 21)) 2047,
⟨12, ⟨none, .e (.store 1 (.t 22) (.t 18)), none, 4095⟩⟩]))) (
.seq (
.region [V 6 7]) (
.region [V 8 6,
⟨none, .e (.panic (.t 8)), none, 0⟩])))))))
def a290 : AFunc := ⟨c290, [], false⟩
def c291 : ACode :=
.seq (
.region [M 2 (.alloc 128 4 zl5)]) (
.seq (
.region [V 4 0,
E 5 (.callf 288 [(.t 4)]),
Q 6 (.conv (.int .i64) (.t 5)),
Q 7 (.build zl5 [(0, 1, (.t 6))]),
M 3 (.alloc 128 4 zl5),
S 4 3 7]) (
.seq (
.seq (
.region [Q 8 (.faddr 0 (.t 3)),
Q 9 (.load false 1 (.t 8))]) (
.block 0 (
.seq (
.region [Q 11 (.bin .eql .scalar (.t 9) (ci 1)),
V 10 11]) (
.cond (.t 10) (
.region [V 12 0,
E 13 (.callf 288 [(.t 12)]),
Q 14 (.conv (.int .i64) (.t 13)),
Q 15 (.faddr 1 (.t 3)),
S 1 15 14]) (
.seq (
.region [Q 17 (.bin .eql .scalar (.t 9) (ci 2)),
V 16 17]) (
.cond (.t 16) (
.region [V 18 0,
E 19 (.callf 313 [(.t 18)]),
Q 20 (.faddr 1 (.t 3)),
S 1 20 19]) (
.seq (
.region [Q 22 (.bin .eql .scalar (.t 9) (ci 3)),
V 21 22]) (
.cond (.t 21) (
.seq (
.region [Q 23 (.mov (ci 0))]) (
.block 1 (
.loop (
.seq (
.region [Q 24 (.bin .lss .scalar (.t 23) (ci 8))]) (
.seq (
.cond (.t 24) (
.skip) (
.exit 1)) (
.seq (
.block 2 (
.draw [D 0 25 (.faddr 2 (.t 3)) 0,
D 1 26 (.load false 1 (.t 25)) 1,
D 2 27 (.bin .shl .scalar (.t 26) (.c (.one (dc (.int .u64 8))))) 3,
W 3 28 0 0,
⟨4, ⟨some 29, .e (.callf 288 [(.t 28)]), none, 8⟩⟩,
D 5 30 (.conv (.int .u64) (.t 29)) 24,
D 6 31 (.bin .or .scalar (.t 27) (.t 30)) 63,
D 7 32 (.faddr 2 (.t 3)) 127,
⟨8, ⟨none, .e (.store 1 (.t 32) (.t 31)), none, 255⟩⟩])) (
.region [Q 33 (.bin .add .scalar (.t 23) (ci 1)),
V 23 33]))))))) (
.seq (
.seq (
.region [Q 35 (.bin .eql .scalar (.t 9) (ci 4)),
V 34 35]) (
.cond (.t 34) (
.skip) (
.region [Q 36 (.bin .eql .scalar (.t 9) (ci 5)),
V 34 36]))) (
.cond (.t 34) (
.region [V 37 0,
E 38 (.callf 232 [(.t 37), (.c (.one (dc (.int .u64 4096))))]),
Q 39 (.faddr 3 (.t 3)),
S 1 39 38]) (
.skip))))))))))) (
.seq (
.seq (
.region [Q 40 (.load true 4 (.t 3)),
E 41 (.callf 158 [(.t 40)]),
Q 42 (.un .not (.t 41))]) (
.cond (.t 42) (
.region [Q 43 (.build [dc (.int .i64 0)] [(0, 1, (ci 7))]),
Q 44 (.mkif 317 (.t 43)),
⟨none, .e (.panic (.t 44)), none, 0⟩]) (
.skip))) (
.seq (
.region [Q 45 (.load true 4 (.t 3)),
S 4 2 45]) (
.ret)))))
def a291 : AFunc := ⟨c291, [.cell 2 true 4], false⟩
def c292 : ACode :=
.seq (
.region [Q 4 (.mov (cs []))]) (
.seq (
.seq (
.region [V 6 1,
V 7 0,
Q 8 (.nilck (.t 7)),
Q 9 (.faddr 0 (.t 8)),
Q 10 (.load false 1 (.t 9)),
Q 11 (.len .str (.t 10)),
Q 12 (.bin .gtr .scalar (.t 6) (.t 11))]) (
.cond (.t 12) (
.seq (
.region [V 13 0,
Q 14 (.nilck (.t 13)),
Q 15 (.faddr 1 (.t 14)),
⟨none, .e (.store 1 (.t 15) (cb true)), none, 0⟩]) (
.seq (
.region [V 16 1,
M 17 (.mkslice 5 1 1 [dc (.int .u8 0)] (.t 16) (.t 16)),
Q 18 (.conv .b2s (.t 17)),
V 4 18]) (
.ret))) (
.skip))) (
.seq (
.region [V 19 0,
Q 20 (.nilck (.t 19)),
Q 21 (.faddr 0 (.t 20)),
Q 22 (.load false 1 (.t 21)),
V 23 1,
Q 24 (.sslice (.t 22) none (some (.t 23))),
V 5 24]) (
.seq (
.region [V 25 0,
V 26 0,
Q 27 (.nilck (.t 26)),
Q 28 (.faddr 0 (.t 27)),
Q 29 (.load false 1 (.t 28)),
V 30 1,
Q 31 (.sslice (.t 29) (some (.t 30)) none),
Q 32 (.nilck (.t 25)),
Q 33 (.faddr 0 (.t 32)),
S 1 33 31]) (
.seq (
.region [V 34 5,
V 4 34]) (
.ret)))))
def a292 : AFunc := ⟨c292, [.tmp 4], false⟩
def c293 : ACode :=
.seq (
.region [Q 2 (.mov (.c (.one (dc (.int .u64 0)))))]) (
.seq (
.region [Q 3 (.mov (.c (.one (dc (.int .u64 0)))))]) (
.seq (
.seq (
.region [V 6 0,
E 7 (.callf 292 [(.t 6), (ci 8)]),
M 8 (.s2b 5 (.t 7)),
Q 9 (.len .sl (.t 8)),
Q 10 (.mov (ci 0))]) (
.block 0 (
.loop (
.seq (
.region [Q 11 (.bin .lss .scalar (.t 10) (.t 9))]) (
.seq (
.cond (.t 11) (
.skip) (
.exit 0)) (
.seq (
.block 1 (
.seq (
.region [Q 12 (.iaddr 1 none (.t 8) (.t 10)),
Q 13 (.load false 1 (.t 12)),
V 5 13]) (
.region [V 14 3,
Q 15 (.bin .shl .scalar (.t 14) (.c (.one (dc (.int .u64 8))))),
V 16 5,
Q 17 (.conv (.int .u64) (.t 16)),
Q 18 (.bin .or .scalar (.t 15) (.t 17)),
V 3 18]))) (
.region [Q 19 (.bin .add .scalar (.t 10) (ci 1)),
V 10 19]))))))) (
.seq (
.region [V 20 3,
V 2 20]) (
.ret))))
def a293 : AFunc := ⟨c293, [.tmp 2], false⟩
def c294 : ACode :=
.seq (
.region [Q 2 (.mov (.c (.one (dc (.int .u64 0)))))]) (
.seq (
.seq (
.region [V 3 0,
Q 4 (.bin .and .scalar (.t 3) (.c (.one (dc (.int .u64 9223372036854775808))))),
Q 5 (.bin .gtr .scalar (.t 4) (.c (.one (dc (.int .u64 0)))))]) (
.cond (.t 5) (
.seq (
.region [V 6 0,
Q 7 (.bin .andNot .scalar (.t 6) (.c (.one (dc (.int .u64 9223372036854775808))))),
V 2 7]) (
.ret)) (
.skip))) (
.seq (
.region [V 8 0,
Q 9 (.un .xor (.t 8)),
V 2 9]) (
.ret)))
def a294 : AFunc := ⟨c294, [.tmp 2], true⟩
def c295 : ACode :=
.seq (
.region [Q 2 (.mov (cs []))]) (
.seq (
.region [Q 3 (.mov (.c (.one (dc (.sl [] true)))))]) (
.seq (
.block 0 (
.loop (
.seq (
.seq (
.region [V 5 0,
Q 6 (.nilck (.t 5)),
Q 7 (.faddr 1 (.t 6)),
Q 8 (.load false 1 (.t 7)),
Q 9 (.un .not (.t 8))]) (
.cond (.t 9) (
.skip) (
.exit 0))) (
.block 1 (
.seq (
.region [V 10 0,
E 11 (.callf 292 [(.t 10), (ci 1)]),
V 4 11]) (
.seq (
.seq (
.region [V 12 4,
Q 13 (.bin .neq .scalar (.t 12) (cs [0]))]) (
.cond (.t 13) (
.seq (
.region [V 14 3,
V 15 4,
E 16 (.append 5 1 1 (.t 14) (.t 15)),
V 3 16]) (
.exit 1)) (
.skip))) (
.seq (
.region [V 17 4,
V 18 0,
E 19 (.callf 292 [(.t 18), (ci 1)]),
Q 20 (.bin .add .scalar (.t 17) (.t 19))]) (
.block 2 (
.seq (
.region [Q 25 (.bin .eql .scalar (.t 20) (cs [0, 1])),
V 24 25]) (
.cond (.t 24) (
.seq (
.region [V 26 3,
Q 27 (.conv .b2s (.t 26)),
V 2 27]) (
.ret)) (
.seq (
.region [Q 29 (.bin .eql .scalar (.t 20) (cs [0, 255])),
V 28 29]) (
.cond (.t 28) (
.region [V 30 3,
M 31 (.bslice 5 1 1 [dc (.int .u8 0)] [(0, 1, (.c (.one (dc (.int .u8 0)))))]),
E 32 (.append 5 1 1 (.t 30) (.t 31)),
V 3 32]) (
.region [V 21 0,
Q 22 (.nilck (.t 21)),
Q 23 (.faddr 1 (.t 22)),
⟨none, .e (.store 1 (.t 23) (cb true)), none, 0⟩]))))))))))))) (
.seq (
.region [Q 2 (.mov (cs []))]) (
.ret))))
def a295 : AFunc := ⟨c295, [.tmp 2], false⟩
def c296 : ACode :=
.seq (
.region [Q 4 (.mov (.c (.one (dc (.int .u32 0)))))]) (
.seq (
.region [E 8 (.callf 314 []),
M 5 (.alloc 328 256 zl15),
S 256 5 8]) (
.seq (
.region [V 9 0,
Q 10 (.un .xor (.t 9)),
V 6 10]) (
.seq (
.seq (
.region [V 11 1,
Q 12 (.len .str (.t 11)),
Q 13 (.mov (ci 0))]) (
.block 0 (
.loop (
.seq (
.region [Q 14 (.bin .lss .scalar (.t 13) (.t 12))]) (
.seq (
.cond (.t 14) (
.skip) (
.exit 0)) (
.seq (
.block 1 (
.seq (
.region [V 15 13,
V 7 15]) (
.region [V 16 6,
Q 17 (.conv (.int .u8) (.t 16)),
V 18 1,
V 19 7,
Q 20 (.sidx (.t 18) (.t 19)),
Q 21 (.bin .xor .scalar (.t 17) (.t 20)),
Q 22 (.iaddr 1 (some 256) (.t 5) (.t 21)),
Q 23 (.load false 1 (.t 22)),
V 24 6,
Q 25 (.bin .shr .scalar (.t 24) (.c (.one (dc (.int .u64 8))))),
Q 26 (.bin .xor .scalar (.t 23) (.t 25)),
V 6 26]))) (
.region [Q 27 (.bin .add .scalar (.t 13) (ci 1)),
V 13 27]))))))) (
.seq (
.region [V 28 6,
Q 29 (.un .xor (.t 28)),
V 4 29]) (
.ret)))))
def a296 : AFunc := ⟨c296, [.tmp 4], true⟩
def c297 : ACode :=
.seq (
.region [Q 2 (.mov (cb false))]) (
.seq (
.seq (
.region [Q 3 (.mov (ci 0))]) (
.block 0 (
.loop (
.seq (
.seq (
.region [V 6 3,
V 7 0,
Q 8 (.len .str (.t 7)),
Q 9 (.bin .lss .scalar (.t 6) (.t 8))]) (
.cond (.t 9) (
.skip) (
.exit 0))) (
.seq (
.block 1 (
.seq (
.region [V 12 0,
V 13 3,
Q 14 (.sidx (.t 12) (.t 13)),
V 4 14]) (
.seq (
.region [V 15 4,
Q 16 (.bin .geq .scalar (.t 15) (.c (.one (dc (.int .u8 97))))),
V 17 16,
G 18 (.mov (.t 4)) 17 true,
G 19 (.bin .leq .scalar (.t 18) (.c (.one (dc (.int .u8 122))))) 17 true,
Q 20 (.pick (.t 17) (.t 19) (cb false)),
V 21 20,
G 22 (.mov (.t 4)) 21 false,
G 23 (.bin .eql .scalar (.t 22) (.c (.one (dc (.int .u8 95))))) 21 false,
Q 24 (.pick (.t 21) (cb true) (.t 23)),
V 5 24]) (
.seq (
.region [V 25 5,
Q 26 (.un .not (.t 25)),
V 27 26,
G 28 (.mov (.t 3)) 27 true,
G 29 (.bin .eql .scalar (.t 28) (ci 0)) 27 true,
G 30 (.mov (.t 29)) 27 true,
G 31 (.mov (.t 4)) 30 false,
G 32 (.bin .lss .scalar (.t 31) (.c (.one (dc (.int .u8 48))))) 30 false,
G 33 (.pick (.t 30) (cb true) (.t 32)) 27 true,
G 34 (.mov (.t 33)) 27 true,
G 35 (.mov (.t 4)) 34 false,
G 36 (.bin .gtr .scalar (.t 35) (.c (.one (dc (.int .u8 57))))) 34 false,
G 37 (.pick (.t 34) (cb true) (.t 36)) 27 true,
Q 38 (.pick (.t 27) (.t 37) (cb false))]) (
.cond (.t 38) (
.seq (
.region [Q 2 (.mov (cb false))]) (
.ret)) (
.skip)))))) (
.region [V 10 3,
Q 11 (.bin .add .scalar (.t 10) (ci 1)),
V 3 11])))))) (
.seq (
.region [V 39 0,
Q 40 (.len .str (.t 39)),
Q 41 (.bin .geq .scalar (.t 40) (ci 1)),
V 42 41,
G 43 (.mov (.t 0)) 42 true,
G 44 (.len .str (.t 43)) 42 true,
G 45 (.bin .leq .scalar (.t 44) (ci 32)) 42 true,
Q 46 (.pick (.t 42) (.t 45) (cb false)),
V 2 46]) (
.ret)))
def a297 : AFunc := ⟨c297, [.tmp 2], true⟩
def c298 : ACode :=
.seq (
.region [Q 4 (.mov (cb false))]) (
.seq (
.seq (
.region [Q 5 (.mov (ci 0))]) (
.block 0 (
.loop (
.seq (
.seq (
.region [V 6 5,
V 7 0,
Q 8 (.len .sl (.t 7)),
Q 9 (.bin .lss .scalar (.t 6) (.t 8))]) (
.cond (.t 9) (
.skip) (
.exit 0))) (
.seq (
.block 1 (
.seq (
.region [V 12 0,
V 13 5,
Q 14 (.iaddr 4 none (.t 12) (.t 13)),
Q 15 (.load true 4 (.t 14)),
E 16 (.callf 300 [(.t 15)]),
Q 17 (.un .not (.t 16))]) (
.cond (.t 17) (
.seq (
.region [Q 4 (.mov (cb false))]) (
.ret)) (
.skip)))) (
.region [V 10 5,
Q 11 (.bin .add .scalar (.t 10) (ci 1)),
V 5 11])))))) (
.seq (
.region [V 18 0,
Q 19 (.len .sl (.t 18)),
Q 20 (.bin .geq .scalar (.t 19) (ci 1)),
V 21 20,
G 22 (.mov (.t 0)) 21 true,
G 23 (.len .sl (.t 22)) 21 true,
G 24 (.mov (.t 1)) 21 true,
G 25 (.bin .leq .scalar (.t 23) (.t 24)) 21 true,
Q 26 (.pick (.t 21) (.t 25) (cb false)),
V 4 26]) (
.ret)))
def a298 : AFunc := ⟨c298, [.tmp 4], true⟩
def c299 : ACode :=
.seq (
.region [M 2 (.box 36 3 (.t 0)),
M 3 (.box 36 3 (.t 1)),
Q 4 (.mov (cb false))]) (
.seq (
.seq (
.region [Q 6 (.faddr 0 (.t 2)),
Q 7 (.load false 1 (.t 6)),
Q 8 (.faddr 0 (.t 3)),
Q 9 (.load false 1 (.t 8)),
Q 10 (.bin .neq .scalar (.t 7) (.t 9)),
V 11 10,
G 12 (.faddr 2 (.t 2)) 11 false,
G 13 (.load false 1 (.t 12)) 11 false,
G 14 (.faddr 2 (.t 3)) 11 false,
G 15 (.load false 1 (.t 14)) 11 false,
G 16 (.bin .neq .scalar (.t 13) (.t 15)) 11 false,
Q 17 (.pick (.t 11) (cb true) (.t 16)),
V 18 17,
G 19 (.faddr 1 (.t 2)) 18 false,
G 20 (.load false 1 (.t 19)) 18 false,
G 21 (.len .sl (.t 20)) 18 false,
G 22 (.faddr 1 (.t 3)) 18 false,
G 23 (.load false 1 (.t 22)) 18 false,
G 24 (.len .sl (.t 23)) 18 false,
G 25 (.bin .neq .scalar (.t 21) (.t 24)) 18 false,
Q 26 (.pick (.t 18) (cb true) (.t 25))]) (
.cond (.t 26) (
.seq (
.region [Q 4 (.mov (cb false))]) (
.ret)) (
.skip))) (
.seq (
.seq (
.region [Q 5 (.mov (ci 0))]) (
.block 0 (
.loop (
.seq (
.seq (
.region [V 27 5,
Q 28 (.faddr 1 (.t 2)),
Q 29 (.load false 1 (.t 28)),
Q 30 (.len .sl (.t 29)),
Q 31 (.bin .lss .scalar (.t 27) (.t 30))]) (
.cond (.t 31) (
.skip) (
.exit 0))) (
.seq (
.block 1 (
.seq (
.draw [D 0 34 (.faddr 1 (.t 2)) 0,
D 1 35 (.load false 1 (.t 34)) 1,
W 2 36 5 0,
D 3 37 (.iaddr 3 none (.t 35) (.t 36)) 7,
D 4 38 (.load true 3 (.t 37)) 15,
D 5 39 (.faddr 1 (.t 3)) 0,
D 6 40 (.load false 1 (.t 39)) 32,
W 7 41 5 0,
D 8 42 (.iaddr 3 none (.t 40) (.t 41)) 224,
D 9 43 (.load true 3 (.t 42)) 480,
D 10 44 (.bin .neq (.agg [.str, .int, .bool]) (.t 38) (.t 43)) 1023]) (
.cond (.t 44) (
.seq (
.region [Q 4 (.mov (cb false))]) (
.ret)) (
.skip)))) (
.region [V 32 5,
Q 33 (.bin .add .scalar (.t 32) (ci 1)),
V 5 33])))))) (
.seq (
.region [Q 4 (.mov (cb true))]) (
.ret))))
def a299 : AFunc := ⟨c299, [.tmp 4], true⟩
def c300 : ACode :=
.seq (
.region [M 1 (.box 128 4 (.t 0)),
Q 2 (.mov (cb false))]) (
.seq (
.seq (
.region [Q 3 (.faddr 0 (.t 1)),
Q 4 (.load false 1 (.t 3))]) (
.block 0 (
.seq (
.region [Q 6 (.bin .eql .scalar (.t 4) (ci 0)),
V 5 6]) (
.cond (.t 5) (
.seq (
.region [Q 7 (.faddr 1 (.t 1)),
Q 8 (.load false 1 (.t 7)),
Q 9 (.bin .eql .scalar (.t 8) (ci 0)),
V 10 9,
G 11 (.faddr 2 (.t 1)) 10 true,
G 12 (.load false 1 (.t 11)) 10 true,
G 13 (.bin .eql .scalar (.t 12) (.c (.one (dc (.int .u64 0))))) 10 true,
Q 14 (.pick (.t 10) (.t 13) (cb false)),
V 15 14,
G 16 (.faddr 3 (.t 1)) 15 true,
G 17 (.load false 1 (.t 16)) 15 true,
G 18 (.bin .eql .scalar (.t 17) (cs [])) 15 true,
Q 19 (.pick (.t 15) (.t 18) (cb false)),
V 2 19]) (
.ret)) (
.seq (
.region [Q 21 (.bin .eql .scalar (.t 4) (ci 1)),
V 20 21]) (
.cond (.t 20) (
.seq (
.region [Q 22 (.faddr 1 (.t 1)),
Q 23 (.load false 1 (.t 22)),
Q 24 (.bin .eql .scalar (.t 23) (ci 0)),
V 25 24,
G 26 (.faddr 1 (.t 1)) 25 false,
G 27 (.load false 1 (.t 26)) 25 false,
G 28 (.bin .eql .scalar (.t 27) (ci 1)) 25 false,
Q 29 (.pick (.t 25) (cb true) (.t 28)),
V 30 29,
G 31 (.faddr 2 (.t 1)) 30 true,
G 32 (.load false 1 (.t 31)) 30 true,
G 33 (.bin .eql .scalar (.t 32) (.c (.one (dc (.int .u64 0))))) 30 true,
Q 34 (.pick (.t 30) (.t 33) (cb false)),
V 35 34,
G 36 (.faddr 3 (.t 1)) 35 true,
G 37 (.load false 1 (.t 36)) 35 true,
G 38 (.bin .eql .scalar (.t 37) (cs [])) 35 true,
Q 39 (.pick (.t 35) (.t 38) (cb false)),
V 2 39]) (
.ret)) (
.seq (
.region [Q 41 (.bin .eql .scalar (.t 4) (ci 2)),
V 40 41]) (
.cond (.t 40) (
.seq (
.region [Q 42 (.faddr 2 (.t 1)),
Q 43 (.load false 1 (.t 42)),
Q 44 (.bin .eql .scalar (.t 43) (.c (.one (dc (.int .u64 0))))),
V 45 44,
G 46 (.faddr 3 (.t 1)) 45 true,
G 47 (.load false 1 (.t 46)) 45 true,
G 48 (.bin .eql .scalar (.t 47) (cs [])) 45 true,
Q 49 (.pick (.t 45) (.t 48) (cb false)),
V 2 49]) (
.ret)) (
.seq (
.region [Q 51 (.bin .eql .scalar (.t 4) (ci 3)),
V 50 51]) (
.cond (.t 50) (
.seq (
.draw [D 0 52 (.faddr 1 (.t 1)) 0,
D 1 53 (.load false 1 (.t 52)) 1,
D 2 54 (.bin .eql .scalar (.t 53) (ci 0)) 3,
W 3 55 54 7,
⟨4, ⟨some 56, .q (.faddr 3 (.t 1)), some (55, true), 15⟩⟩,
⟨5, ⟨some 57, .q (.load false 1 (.t 56)), some (55, true), 31⟩⟩,
⟨6, ⟨some 58, .q (.bin .eql .scalar (.t 57) (cs [])), some (55, true), 63⟩⟩,
D 7 59 (.pick (.t 55) (.t 58) (cb false)) 127,
W 8 60 59 255,
⟨9, ⟨some 61, .q (.faddr 2 (.t 1)), some (60, true), 511⟩⟩,
⟨10, ⟨some 62, .q (.load false 1 (.t 61)), some (60, true), 1023⟩⟩,
⟨12, ⟨some 64, .q (.faddr 2 (.t 1)), some (60, true), 511⟩⟩,
⟨13, ⟨some 65, .q (.load false 1 (.t 64)), some (60, true), 4607⟩⟩,
⟨11, ⟨some 63, .e (.callf 315 [(.t 62)]), some (60, true), 2047⟩⟩,
⟨14, ⟨some 66, .q (.bin .eql .scalar (.t 63) (.t 65)), some (60, true), 16383⟩⟩,
D 15 67 (.pick (.t 60) (.t 66) (cb false)) 32767,
W 16 2 67 65535]) (
.ret)) (
.seq (
.seq (
.region [Q 69 (.bin .eql .scalar (.t 4) (ci 4)),
V 68 69]) (
.cond (.t 68) (
.skip) (
.region [Q 70 (.bin .eql .scalar (.t 4) (ci 5)),
V 68 70]))) (
.cond (.t 68) (
.seq (
.region [Q 71 (.faddr 1 (.t 1)),
Q 72 (.load false 1 (.t 71)),
Q 73 (.bin .eql .scalar (.t 72) (ci 0)),
V 74 73,
G 75 (.faddr 2 (.t 1)) 74 true,
G 76 (.load false 1 (.t 75)) 74 true,
G 77 (.bin .eql .scalar (.t 76) (.c (.one (dc (.int .u64 0))))) 74 true,
Q 78 (.pick (.t 74) (.t 77) (cb false)),
V 79 78,
G 80 (.faddr 3 (.t 1)) 79 true,
G 81 (.load false 1 (.t 80)) 79 true,
G 82 (.len .str (.t 81)) 79 true,
G 83 (.bin .leq .scalar (.t 82) (ci 4096)) 79 true,
Q 84 (.pick (.t 79) (.t 83) (cb false)),
V 2 84]) (
.ret)) (
.skip))))))))))))) (
.seq (
.region [Q 2 (.mov (cb false))]) (
.ret)))
def a300 : AFunc := ⟨c300, [.tmp 2], true⟩
def c301 : ACode :=
.seq (
.region [Q 2 (.mov (cs []))]) (
.seq (
.region [V 3 0,
E 4 (.callf 316 [(.t 3)]),
E 5 (.callf 173 [(.t 4)]),
V 2 5]) (
.ret))
def a301 : AFunc := ⟨c301, [.tmp 2], true⟩
def c302 : ACode :=
.seq (
.region [Q 4 (.mov (ci 0))]) (
.seq (
.seq (
.region [Q 5 (.mov (ci 1))]) (
.block 0 (
.loop (
.seq (
.seq (
.region [V 6 5,
Q 7 (.bin .gtr .scalar (.t 6) (ci 0))]) (
.cond (.t 7) (
.skip) (
.exit 0))) (
.seq (
.block 1 (
.seq (
.seq (
.region [V 10 1,
Q 11 (.bin .lss .scalar (.t 10) (ci 0)),
V 12 11,
G 13 (.mov (.t 1)) 12 false,
G 14 (.mov (.t 0)) 12 false,
G 15 (.len .sl (.t 14)) 12 false,
G 16 (.bin .geq .scalar (.t 13) (.t 15)) 12 false,
Q 17 (.pick (.t 12) (cb true) (.t 16)),
V 18 17,
G 19 (.mov (.t 0)) 18 false,
G 20 (.mov (.t 1)) 18 false,
G 21 (.iaddr 6 none (.t 19) (.t 20)) 18 false,
G 22 (.faddr 0 (.t 21)) 18 false,
G 23 (.load false 1 (.t 22)) 18 false,
⟨some 24, .e (.callf 317 [(.t 23)]), some (18, false), 0⟩,
G 25 (.bin .eql .scalar (.t 24) (ci (-1))) 18 false,
Q 26 (.pick (.t 18) (cb true) (.t 25))]) (
.cond (.t 26) (
.seq (
.region [Q 4 (.mov (ci (-1)))]) (
.ret)) (
.skip))) (
.seq (
.region [V 27 5,
V 28 0,
V 29 1,
Q 30 (.iaddr 6 none (.t 28) (.t 29)),
Q 31 (.faddr 0 (.t 30)),
Q 32 (.load false 1 (.t 31)),
E 33 (.callf 317 [(.t 32)]),
Q 34 (.bin .add .scalar (.t 27) (.t 33)),
V 5 34]) (
.region [V 35 1,
Q 36 (.bin .add .scalar (.t 35) (ci 1)),
V 1 36])))) (
.region [V 8 5,
Q 9 (.bin .sub .scalar (.t 8) (ci 1)),
V 5 9])))))) (
.seq (
.region [V 37 1,
V 4 37]) (
.ret)))
def a302 : AFunc := ⟨c302, [.tmp 4], true⟩
def c303 : ACode :=
.seq (
.region [Q 2 (.mov (ci 0))]) (
.seq (
.seq (
.region [V 3 0]) (
.cond (.t 3) (
.seq (
.region [Q 2 (.mov (ci 1))]) (
.ret)) (
.skip))) (
.seq (
.region [Q 2 (.mov (ci 0))]) (
.ret)))
def a303 : AFunc := ⟨c303, [.tmp 2], true⟩
def c304 : ACode :=
.seq (
.region [M 2 (.box 128 4 (.t 0)),
M 3 (.box 128 4 (.t 1)),
Q 4 (.mov (ci 0))]) (
.seq (
.block 0 (
.seq (
.region [Q 6 (.load true 4 (.t 2)),
E 7 (.callf 158 [(.t 6)]),
Q 8 (.un .not (.t 7)),
V 9 8,
G 10 (.load true 4 (.t 3)) 9 false,
⟨some 11, .e (.callf 158 [(.t 10)]), some (9, false), 0⟩,
G 12 (.un .not (.t 11)) 9 false,
Q 13 (.pick (.t 9) (cb true) (.t 12)),
V 5 13]) (
.cond (.t 5) (
.seq (
.region [Q 4 (.mov (ci 0))]) (
.ret)) (
.seq (
.region [Q 15 (.faddr 0 (.t 2)),
Q 16 (.load false 1 (.t 15)),
Q 17 (.faddr 0 (.t 3)),
Q 18 (.load false 1 (.t 17)),
Q 19 (.bin .neq .scalar (.t 16) (.t 18)),
V 14 19]) (
.cond (.t 14) (
.seq (
.region [Q 20 (.faddr 0 (.t 2)),
Q 21 (.load false 1 (.t 20)),
Q 22 (.faddr 0 (.t 3)),
Q 23 (.load false 1 (.t 22)),
E 24 (.callf 318 [(.t 21), (.t 23)]),
V 4 24]) (
.ret)) (
.seq (
.region [Q 26 (.faddr 0 (.t 2)),
Q 27 (.load false 1 (.t 26)),
Q 28 (.bin .eql .scalar (.t 27) (ci 3)),
V 25 28]) (
.cond (.t 25) (
.seq (
.draw [D 0 29 (.load true 4 (.t 2)) 0,
D 2 31 (.load true 4 (.t 3)) 0,
⟨1, ⟨some 30, .e (.callf 320 [(.t 29)]), none, 1⟩⟩,
⟨3, ⟨some 32, .e (.callf 320 [(.t 31)]), none, 7⟩⟩,
⟨4, ⟨some 33, .e (.callf 319 [(.t 30), (.t 32)]), none, 15⟩⟩,
W 5 4 33 31]) (
.ret)) (
.seq (
.region [Q 35 (.faddr 3 (.t 2)),
Q 36 (.load false 1 (.t 35)),
Q 37 (.faddr 3 (.t 3)),
Q 38 (.load false 1 (.t 37)),
Q 39 (.bin .neq .scalar (.t 36) (.t 38)),
V 34 39]) (
.cond (.t 34) (
.seq (
.region [Q 40 (.faddr 3 (.t 2)),
Q 41 (.load false 1 (.t 40)),
Q 42 (.faddr 3 (.t 3)),
Q 43 (.load false 1 (.t 42)),
E 44 (.callf 321 [(.t 41), (.t 43)]),
V 4 44]) (
.ret)) (
.skip)))))))))) (
.seq (
.region [Q 45 (.faddr 1 (.t 2)),
Q 46 (.load false 1 (.t 45)),
Q 47 (.faddr 1 (.t 3)),
Q 48 (.load false 1 (.t 47)),
E 49 (.callf 318 [(.t 46), (.t 48)]),
V 4 49]) (
.ret)))
def a304 : AFunc := ⟨c304, [.tmp 4], true⟩
def c305 : ACode :=
.seq (
.region [Q 4 (.mov (cb false))]) (
.seq (
.region [V 5 1,
Q 6 (.bin .geq .scalar (.t 5) (ci 2)),
V 7 6,
G 8 (.mov (.t 1)) 7 true,
G 9 (.mov (.t 0)) 7 true,
G 10 (.nilck (.t 9)) 7 true,
G 11 (.faddr 0 (.t 10)) 7 true,
G 12 (.load false 1 (.t 11)) 7 true,
⟨some 13, .e (.callf 195 [(.t 12)]), some (7, true), 0⟩,
G 14 (.bin .lss .scalar (.t 8) (.t 13)) 7 true,
Q 15 (.pick (.t 7) (.t 14) (cb false)),
V 16 15,
G 17 (.mov (.t 0)) 16 true,
G 18 (.nilck (.t 17)) 16 true,
G 19 (.faddr 0 (.t 18)) 16 true,
G 20 (.load false 1 (.t 19)) 16 true,
G 21 (.mov (.t 1)) 16 true,
⟨some 22, .e (.callf 196 [(.t 20), (.t 21)]), some (16, true), 0⟩,
G 23 (.un .not (.t 22)) 16 true,
Q 24 (.pick (.t 16) (.t 23) (cb false)),
V 4 24]) (
.ret))
def a305 : AFunc := ⟨c305, [.tmp 4], false⟩
def c306 : ACode :=
.seq (
.region [Q 2 (.mov (cs [])),
Q 3 (.mov (cb false))]) (
.seq (
.seq (
.region [V 6 0,
Q 7 (.bin .eql .scalar (.t 6) (cs []))]) (
.cond (.t 7) (
.seq (
.region [Q 2 (.mov (cs [])),
Q 3 (.mov (cb false))]) (
.ret)) (
.skip))) (
.seq (
.draw [W 0 8 0 0,
D 1 9 (.sidx (.t 8) (ci 0)) 1,
D 2 10 (.conv (.int .i64) (.t 9)) 3,
W 3 11 0 0,
D 4 12 (.sslice (.t 11) (some (ci 1)) none) 8,
W 5 4 10 7,
W 6 5 12 63]) (
.seq (
.seq (
.region [V 13 4,
Q 14 (.bin .gtr .scalar (.t 13) (ci 123)),
V 15 14,
G 16 (.mov (.t 4)) 15 false,
G 17 (.bin .add .scalar (.t 16) (ci 4)) 15 false,
G 18 (.mov (.t 5)) 15 false,
G 19 (.len .str (.t 18)) 15 false,
G 20 (.bin .gtr .scalar (.t 17) (.t 19)) 15 false,
Q 21 (.pick (.t 15) (cb true) (.t 20))]) (
.cond (.t 21) (
.seq (
.region [Q 2 (.mov (cs [])),
Q 3 (.mov (cb false))]) (
.ret)) (
.skip))) (
.seq (
.region [V 22 5,
V 23 4,
Q 24 (.bin .add .scalar (.t 23) (ci 4)),
Q 25 (.sslice (.t 22) none (some (.t 24))),
E 26 (.callf 120 [(.t 25)]),
Q 27 (.extract 0 (.t 26)),
Q 28 (.extract 1 (.t 26)),
V 2 27,
V 3 28]) (
.ret)))))
def a306 : AFunc := ⟨c306, [.tmp 2, .tmp 3], false⟩
def c307 : ACode :=
.seq (
.region [Q 4 (.mov (cs [])),
Q 5 (.mov (cb false))]) (
.seq (
.seq (
.region [V 6 0,
Q 7 (.len .str (.t 6)),
V 8 1,
Q 9 (.len .str (.t 8)),
Q 10 (.bin .lss .scalar (.t 7) (.t 9)),
V 11 10,
G 12 (.mov (.t 0)) 11 false,
G 13 (.mov (.t 1)) 11 false,
G 14 (.len .str (.t 13)) 11 false,
G 15 (.sslice (.t 12) none (some (.t 14))) 11 false,
G 16 (.mov (.t 1)) 11 false,
G 17 (.bin .neq .scalar (.t 15) (.t 16)) 11 false,
Q 18 (.pick (.t 11) (cb true) (.t 17))]) (
.cond (.t 18) (
.seq (
.region [V 19 0,
V 4 19,
Q 5 (.mov (cb false))]) (
.ret)) (
.skip))) (
.seq (
.region [V 20 0,
V 21 1,
Q 22 (.len .str (.t 21)),
Q 23 (.sslice (.t 20) (some (.t 22)) none),
V 4 23,
Q 5 (.mov (cb true))]) (
.ret)))
def a307 : AFunc := ⟨c307, [.tmp 4, .tmp 5], false⟩
def c308 : ACode :=
.seq (
.region [Q 2 (.mov (ci 0))]) (
.seq (
.seq (
.region [V 3 0,
Q 4 (.bin .eql .ptr (.t 3) (.c (.one (dc (.nilp)))))]) (
.cond (.t 4) (
.seq (
.region [Q 2 (.mov (ci 0))]) (
.ret)) (
.skip))) (
.seq (
.draw [W 0 5 0 0,
D 1 6 (.nilck (.t 5)) 1,
D 2 7 (.faddr 0 (.t 6)) 3,
D 3 8 (.load false 1 (.t 7)) 7,
D 4 9 (.len .str (.t 8)) 15,
W 5 10 0 0,
D 6 11 (.nilck (.t 10)) 32,
D 7 12 (.faddr 1 (.t 11)) 96,
D 8 13 (.load false 1 (.t 12)) 224,
D 9 14 (.bin .sub .scalar (.t 9) (.t 13)) 511,
W 10 2 14 1023]) (
.ret)))
def a308 : AFunc := ⟨c308, [.tmp 2], false⟩
def c309 : ACode :=
.seq (
.region [M 4 (.alloc 325 4 zl13),
Q 5 (.mov (cb false))]) (
.seq (
.draw [W 0 19 0 0,
D 1 20 (.nilck (.t 19)) 1,
D 2 21 (.faddr 0 (.t 20)) 3,
D 3 22 (.load false 1 (.t 21)) 7,
W 4 23 0 0,
D 5 24 (.nilck (.t 23)) 16,
D 6 25 (.faddr 1 (.t 24)) 48,
D 7 26 (.load false 1 (.t 25)) 112,
D 8 27 (.bin .add .scalar (.t 26) (ci 2)) 240,
W 9 28 1 0,
D 10 29 (.bin .add .scalar (.t 27) (.t 28)) 1008,
⟨11, ⟨some 30, .e (.callf 268 [(.t 22), (.t 29)]), none, 2047⟩⟩,
W 12 18 30 4095,
D 13 31 (.extract 0 (.t 18)) 8191,
D 14 32 (.extract 1 (.t 18)) 8191,
W 15 6 31 16383,
W 16 7 32 65535]) (
.seq (
.region [V 34 6,
E 35 (.callf 306 [(.t 34)]),
V 33 35,
Q 36 (.extract 0 (.t 33)),
Q 37 (.extract 1 (.t 33)),
V 8 36,
V 9 37]) (
.seq (
.seq (
.region [V 38 9,
Q 39 (.un .not (.t 38))]) (
.cond (.t 39) (
.seq (
.region [Q 40 (.build zl13 []),
S 4 4 40,
Q 5 (.mov (cb false))]) (
.ret)) (
.skip))) (
.seq (
.region [V 42 8,
E 43 (.callf 307 [(.t 42), (cs [76])]),
V 41 43,
Q 44 (.extract 0 (.t 41)),
Q 45 (.extract 1 (.t 41)),
V 10 44,
V 11 45]) (
.seq (
.region [V 46 10,
E 47 (.callf 114 [(.t 46)]),
V 12 47]) (
.seq (
.region [V 48 12,
E 49 (.callf 160 [(.t 48)]),
V 13 49]) (
.seq (
.seq (
.region [V 50 12,
E 51 (.callf 119 [(.t 50)]),
Q 52 (.bin .neq .scalar (.t 51) (ci 0)),
V 53 52,
G 54 (.mov (.t 13)) 53 false,
G 55 (.bin .gtr .scalar (.t 54) (.c (.one (dc (.int .u64 1099511627776))))) 53 false,
Q 56 (.pick (.t 53) (cb true) (.t 55))]) (
.cond (.t 56) (
.seq (
.region [Q 57 (.build zl13 []),
S 4 4 57,
Q 5 (.mov (cb false))]) (
.ret)) (
.skip))) (
.seq (
.region [V 58 13,
Q 59 (.conv (.int .i64) (.t 58)),
V 14 59,
Q 15 (.mov (cb true))]) (
.seq (
.region [V 61 8,
V 62 14,
V 63 1,
E 64 (.callf 275 [(.t 62), (.t 63), (ci 1)]),
E 65 (.callf 307 [(.t 61), (.t 64)]),
V 60 65,
Q 66 (.extract 0 (.t 60)),
Q 67 (.extract 1 (.t 60)),
V 16 66,
V 9 67]) (
.seq (
.seq (
.region [V 68 9,
Q 69 (.un .not (.t 68))]) (
.cond (.t 69) (
.seq (
.region [Q 15 (.mov (cb false))]) (
.region [V 71 8,
V 72 14,
V 73 1,
E 74 (.callf 275 [(.t 72), (.t 73), (ci 0)]),
E 75 (.callf 307 [(.t 71), (.t 74)]),
V 70 75,
Q 76 (.extract 0 (.t 70)),
Q 77 (.extract 1 (.t 70)),
V 16 76,
V 9 77])) (
.skip))) (
.seq (
.seq (
.region [V 78 9,
Q 79 (.un .not (.t 78)),
V 80 79,
G 81 (.mov (.t 16)) 80 false,
G 82 (.len .str (.t 81)) 80 false,
G 83 (.bin .lss .scalar (.t 82) (ci 4)) 80 false,
Q 84 (.pick (.t 80) (cb true) (.t 83))]) (
.cond (.t 84) (
.seq (
.region [Q 85 (.build zl13 []),
S 4 4 85,
Q 5 (.mov (cb false))]) (
.ret)) (
.skip))) (
.seq (
.draw [W 0 86 14 0,
W 1 87 16 0,
D 2 88 (.sslice (.t 87) none (some (ci 4))) 2,
W 3 89 16 0,
D 4 90 (.sslice (.t 89) (some (ci 4)) none) 8,
W 5 91 15 0,
D 6 92 (.build zl13 [(0, 1, (.t 86)), (1, 1, (.t 88)), (2, 1, (.t 90)), (3, 1, (.t 91))]) 63,
⟨7, ⟨some 17, .m (.alloc 325 4 zl13), none, 0⟩⟩,
⟨8, ⟨none, .e (.store 4 (.t 17) (.t 92)), none, 255⟩⟩]) (
.seq (
.draw [D 0 93 (.load true 4 (.t 17)) 0,
D 1 94 (.faddr 2 (.t 17)) 0,
D 2 95 (.load false 1 (.t 94)) 2,
D 3 96 (.len .str (.t 95)) 6,
D 4 97 (.bin .leq .scalar (.t 96) (ci 100)) 14,
W 5 98 97 30,
⟨6, ⟨some 99, .q (.mov (.t 15)), some (98, true), 62⟩⟩,
⟨7, ⟨some 100, .q (.un .not (.t 99)), some (98, true), 126⟩⟩,
⟨8, ⟨some 101, .q (.mov (.t 100)), some (98, true), 254⟩⟩,
⟨9, ⟨some 102, .q (.faddr 2 (.t 17)), some (101, false), 510⟩⟩,
⟨10, ⟨some 103, .q (.load false 1 (.t 102)), some (101, false), 1022⟩⟩,
⟨11, ⟨some 104, .q (.len .str (.t 103)), some (101, false), 2046⟩⟩,
⟨12, ⟨some 105, .q (.bin .eql .scalar (.t 104) (ci 100)), some (101, false), 4094⟩⟩,
⟨13, ⟨some 106, .q (.pick (.t 101) (cb true) (.t 105)), some (98, true), 8190⟩⟩,
D 14 107 (.pick (.t 98) (.t 106) (cb false)) 16382,
⟨15, ⟨none, .e (.store 4 (.t 4) (.t 93)), none, 511⟩⟩,
W 16 5 107 65535]) (
.ret))))))))))))))
def a309 : AFunc := ⟨c309, [.cell 4 true 4, .tmp 5], false⟩
def c310 : ACode :=
.seq (
.region [Q 2 (.mov (cs []))]) (
.seq (
.region [V 3 0,
Q 4 (.conv (.int .u64) (.t 3)),
E 5 (.callf 110 [(.t 4)]),
V 2 5]) (
.ret))
def a310 : AFunc := ⟨c310, [.tmp 2], false⟩
def c311 : ACode :=
.seq (
.region [Q 4 (.mov (ci 0))]) (
.seq (
.block 0 (
.seq (
.region [V 6 0,
E 7 (.callf 134 [(.t 6)]),
Q 8 (.bin .eql .scalar (.t 7) (ci 0)),
V 5 8]) (
.cond (.t 5) (
.seq (
.region [Q 4 (.mov (ci 13))]) (
.ret)) (
.seq (
.region [V 10 1,
Q 11 (.bin .lss .scalar (.t 10) (ci 0)),
V 12 11,
G 13 (.mov (.t 1)) 12 false,
G 14 (.mov (.t 0)) 12 false,
G 15 (.nilck (.t 14)) 12 false,
G 16 (.faddr 0 (.t 15)) 12 false,
G 17 (.load false 1 (.t 16)) 12 false,
G 18 (.bin .geq .scalar (.t 13) (.t 17)) 12 false,
Q 19 (.pick (.t 12) (cb true) (.t 18)),
V 9 19]) (
.cond (.t 9) (
.seq (
.region [Q 4 (.mov (ci 2))]) (
.ret)) (
.skip)))))) (
.seq (
.region [Q 4 (.mov (ci 0))]) (
.ret)))
def a311 : AFunc := ⟨c311, [.tmp 4], false⟩
def c312 : ACode :=
.seq (
.region [Q 2 (.mov (cb false))]) (
.seq (
.region [V 3 0,
Q 4 (.nilck (.t 3)),
Q 5 (.faddr 5 (.t 4)),
Q 6 (.load false 1 (.t 5)),
V 7 6,
G 8 (.mov (.t 0)) 7 true,
G 9 (.nilck (.t 8)) 7 true,
G 10 (.faddr 6 (.t 9)) 7 true,
G 11 (.load false 1 (.t 10)) 7 true,
G 12 (.bin .eql .scalar (.t 11) (ci 0)) 7 true,
Q 13 (.pick (.t 7) (.t 12) (cb false)),
V 2 13]) (
.ret))
def a312 : AFunc := ⟨c312, [.tmp 2], false⟩
def c313 : ACode :=
.seq (
.region [Q 2 (.mov (ci 0))]) (
.seq (
.region [V 4 0,
E 5 (.callf 229 [(.t 4)]),
V 3 5]) (
.seq (
.region [V 6 3,
Q 7 (.bin .shr .scalar (.t 6) (.c (.one (dc (.int .u64 1))))),
Q 8 (.conv (.int .i64) (.t 7)),
V 9 3,
Q 10 (.bin .and .scalar (.t 9) (.c (.one (dc (.int .u64 1))))),
Q 11 (.conv (.int .i64) (.t 10)),
Q 12 (.un .neg (.t 11)),
Q 13 (.bin .xor .scalar (.t 8) (.t 12)),
V 2 13]) (
.ret)))
def a313 : AFunc := ⟨c313, [.tmp 2], false⟩
def c314 : ACode :=
.seq (
.region [M 0 (.alloc 328 256 zl15)]) (
.seq (
.region [M 1 (.alloc 328 256 zl15)]) (
.seq (
.seq (
.region [Q 5 (.mov (ci 0))]) (
.block 0 (
.loop (
.seq (
.region [Q 6 (.bin .lss .scalar (.t 5) (ci 256))]) (
.seq (
.cond (.t 6) (
.skip) (
.exit 0)) (
.seq (
.block 1 (
.seq (
.region [V 7 5,
V 2 7]) (
.seq (
.region [V 8 2,
Q 9 (.conv (.int .u32) (.t 8)),
V 3 9]) (
.seq (
.seq (
.region [Q 10 (.mov (ci 0))]) (
.block 2 (
.loop (
.seq (
.region [Q 11 (.bin .lss .scalar (.t 10) (ci 8))]) (
.seq (
.cond (.t 11) (
.skip) (
.exit 2)) (
.seq (
.block 3 (
.seq (
.region [V 12 3,
Q 13 (.bin .and .scalar (.t 12) (.c (.one (dc (.int .u32 1))))),
V 4 13]) (
.seq (
.region [V 14 3,
Q 15 (.bin .shr .scalar (.t 14) (.c (.one (dc (.int .u64 1))))),
V 3 15]) (
.seq (
.region [V 16 4,
Q 17 (.bin .gtr .scalar (.t 16) (.c (.one (dc (.int .u32 0)))))]) (
.cond (.t 17) (
.region [V 18 3,
Q 19 (.bin .xor .scalar (.t 18) (.c (.one (dc (.int .u32 3988292384))))),
V 3 19]) (
.skip)))))) (
.region [Q 20 (.bin .add .scalar (.t 10) (ci 1)),
V 10 20]))))))) (
.region [V 21 2,
V 22 3,
Q 23 (.iaddr 1 (some 256) (.t 1) (.t 21)),
S 1 23 22]))))) (
.region [Q 24 (.bin .add .scalar (.t 5) (ci 1)),
V 5 24]))))))) (
.seq (
.region [Q 25 (.load true 256 (.t 1)),
S 256 0 25]) (
.ret))))
def a314 : AFunc := ⟨c314, [.cell 0 true 256], true⟩
def c315 : ACode :=
.seq (
.region [Q 2 (.mov (.c (.one (dc (.int .u64 0)))))]) (
.seq (
.region [V 4 0,
Q 5 (.bin .and .scalar (.t 4) (.c (.one (dc (.int .u64 9223372036854775807))))),
V 3 5]) (
.seq (
.seq (
.region [V 6 3,
Q 7 (.bin .gtr .scalar (.t 6) (.c (.one (dc (.int .u64 9218868437227405312)))))]) (
.cond (.t 7) (
.seq (
.region [Q 2 (.mov (.c (.one (dc (.int .u64 9221120237041090560)))))]) (
.ret)) (
.skip))) (
.seq (
.seq (
.region [V 8 3,
Q 9 (.bin .eql .scalar (.t 8) (.c (.one (dc (.int .u64 0)))))]) (
.cond (.t 9) (
.seq (
.region [Q 2 (.mov (.c (.one (dc (.int .u64 0)))))]) (
.ret)) (
.skip))) (
.seq (
.region [V 10 0,
V 2 10]) (
.ret)))))
def a315 : AFunc := ⟨c315, [.tmp 2], true⟩
def c316 : ACode :=
.seq (
.region [Q 2 (.mov (.c (.one (dc (.int .u64 0)))))]) (
.seq (
.seq (
.region [V 3 0,
Q 4 (.bin .geq .scalar (.t 3) (ci 0))]) (
.cond (.t 4) (
.seq (
.region [V 5 0,
Q 6 (.conv (.int .u64) (.t 5)),
Q 7 (.bin .mul .scalar (.c (.one (dc (.int .u64 2)))) (.t 6)),
V 2 7]) (
.ret)) (
.skip))) (
.seq (
.region [V 8 0,
Q 9 (.bin .add .scalar (.t 8) (ci 1)),
Q 10 (.un .neg (.t 9)),
Q 11 (.conv (.int .u64) (.t 10)),
Q 12 (.bin .mul .scalar (.c (.one (dc (.int .u64 2)))) (.t 11)),
Q 13 (.bin .add .scalar (.t 12) (.c (.one (dc (.int .u64 1))))),
V 2 13]) (
.ret)))
def a316 : AFunc := ⟨c316, [.tmp 2], true⟩
def c317 : ACode :=
.seq (
.region [Q 2 (.mov (ci 0))]) (
.seq (
.block 0 (
.seq (
.region [V 4 0,
Q 5 (.bin .lss .scalar (.t 4) (ci 1)),
V 6 5,
G 7 (.mov (.t 0)) 6 false,
G 8 (.bin .gtr .scalar (.t 7) (ci 11)) 6 false,
Q 9 (.pick (.t 6) (cb true) (.t 8)),
V 3 9]) (
.cond (.t 3) (
.seq (
.region [Q 2 (.mov (ci (-1)))]) (
.ret)) (
.seq (
.region [V 11 0,
Q 12 (.bin .eql .scalar (.t 11) (ci 11)),
V 10 12]) (
.cond (.t 10) (
.seq (
.region [Q 2 (.mov (ci 1))]) (
.ret)) (
.seq (
.region [V 14 0,
Q 15 (.bin .eql .scalar (.t 14) (ci 9)),
V 16 15,
G 17 (.mov (.t 0)) 16 false,
G 18 (.bin .eql .scalar (.t 17) (ci 10)) 16 false,
Q 19 (.pick (.t 16) (cb true) (.t 18)),
V 13 19]) (
.cond (.t 13) (
.seq (
.region [Q 2 (.mov (ci 2))]) (
.ret)) (
.skip)))))))) (
.seq (
.region [Q 2 (.mov (ci 0))]) (
.ret)))
def a317 : AFunc := ⟨c317, [.tmp 2], true⟩
def c318 : ACode :=
.seq (
.region [Q 4 (.mov (ci 0))]) (
.seq (
.block 0 (
.seq (
.region [V 6 0,
V 7 1,
Q 8 (.bin .lss .scalar (.t 6) (.t 7)),
V 5 8]) (
.cond (.t 5) (
.seq (
.region [Q 4 (.mov (ci (-1)))]) (
.ret)) (
.seq (
.region [V 10 0,
V 11 1,
Q 12 (.bin .gtr .scalar (.t 10) (.t 11)),
V 9 12]) (
.cond (.t 9) (
.seq (
.region [Q 4 (.mov (ci 1))]) (
.ret)) (
.skip)))))) (
.seq (
.region [Q 4 (.mov (ci 0))]) (
.ret)))
def a318 : AFunc := ⟨c318, [.tmp 4], true⟩
def c319 : ACode :=
.seq (
.region [Q 4 (.mov (ci 0))]) (
.seq (
.region [Q 5 (.mov (.c (.one (.fn (.func 322) 322 [] []))))]) (
.seq (
.seq (
.region [V 7 5,
V 8 0,
E 9 (.callv (.t 7) [(.t 8)]),
V 10 5,
V 11 1,
E 12 (.callv (.t 10) [(.t 11)]),
E 13 (.callf 318 [(.t 9), (.t 12)]),
V 6 13]) (
.seq (
.region [V 14 6,
Q 15 (.bin .neq .scalar (.t 14) (ci 0))]) (
.cond (.t 15) (
.seq (
.region [V 16 6,
V 4 16]) (
.ret)) (
.skip)))) (
.seq (
.region [V 17 0,
V 18 1,
E 19 (.callf 323 [(.t 17), (.t 18)]),
V 4 19]) (
.ret))))
def a319 : AFunc := ⟨c319, [.tmp 4], true⟩
def c320 : ACode :=
.seq (
.region [M 1 (.box 128 4 (.t 0)),
Q 2 (.mov (.c (.one (dc (.flt .f64 0)))))]) (
.seq (
.seq (
.region [Q 3 (.faddr 0 (.t 1)),
Q 4 (.load false 1 (.t 3)),
Q 5 (.bin .neq .scalar (.t 4) (ci 3)),
V 6 5,
G 7 (.load true 4 (.t 1)) 6 false,
⟨some 8, .e (.callf 158 [(.t 7)]), some (6, false), 0⟩,
G 9 (.un .not (.t 8)) 6 false,
Q 10 (.pick (.t 6) (cb true) (.t 9))]) (
.cond (.t 10) (
.seq (
.region [Q 2 (.mov (.c (.one (dc (.flt .f64 0)))))]) (
.ret)) (
.skip))) (
.seq (
.region [Q 11 (.faddr 2 (.t 1)),
Q 12 (.load false 1 (.t 11)),
Q 13 (.bitsf (.t 12)),
V 2 13]) (
.ret)))
def a320 : AFunc := ⟨c320, [.tmp 2], true⟩
def c321 : ACode :=
.seq (
.region [Q 4 (.mov (ci 0))]) (
.seq (
.block 0 (
.seq (
.region [V 6 0,
V 7 1,
Q 8 (.bin .lss .scalar (.t 6) (.t 7)),
V 5 8]) (
.cond (.t 5) (
.seq (
.region [Q 4 (.mov (ci (-1)))]) (
.ret)) (
.seq (
.region [V 10 0,
V 11 1,
Q 12 (.bin .gtr .scalar (.t 10) (.t 11)),
V 9 12]) (
.cond (.t 9) (
.seq (
.region [Q 4 (.mov (ci 1))]) (
.ret)) (
.skip)))))) (
.seq (
.region [Q 4 (.mov (ci 0))]) (
.ret)))
def a321 : AFunc := ⟨c321, [.tmp 4], true⟩
def c322 : ACode :=
.seq (
.region [Q 2 (.mov (ci 0))]) (
.seq (
.seq (
.region [V 3 0,
E 4 (.callf 285 [(.t 3)])]) (
.cond (.t 4) (
.seq (
.region [Q 2 (.mov (ci 1))]) (
.ret)) (
.skip))) (
.seq (
.region [Q 2 (.mov (ci 0))]) (
.ret)))
def a322 : AFunc := ⟨c322, [.tmp 2], true⟩
def c323 : ACode :=
.seq (
.region [Q 4 (.mov (ci 0))]) (
.seq (
.block 0 (
.seq (
.region [V 6 0,
V 7 1,
Q 8 (.bin .lss .scalar (.t 6) (.t 7)),
V 5 8]) (
.cond (.t 5) (
.seq (
.region [Q 4 (.mov (ci (-1)))]) (
.ret)) (
.seq (
.region [V 10 0,
V 11 1,
Q 12 (.bin .gtr .scalar (.t 10) (.t 11)),
V 9 12]) (
.cond (.t 9) (
.seq (
.region [Q 4 (.mov (ci 1))]) (
.ret)) (
.skip)))))) (
.seq (
.region [Q 4 (.mov (ci 0))]) (
.ret)))
def a323 : AFunc := ⟨c323, [.tmp 4], true⟩
def tbl : PM AFunc := (.node none (.node none (.node none (.node (some a7) (.node (some a15) (.node (some a31) (.node none (.node (some a127) (.node (some a255) .nil .nil) .nil) (.node (some a191) (.node (some a319) .nil .nil) .nil)) (.node (some a95) (.node (some a159) (.node (some a287) .nil .nil) .nil) (.node (some a223) .nil .nil))) (.node (some a47) (.node (some a79) (.node (some a143) (.node (some a271) .nil .nil) .nil) (.node (some a207) (.node none .nil .nil) .nil)) (.node (some a111) (.node (some a175) (.node (some a303) .nil .nil) .nil) (.node (some a239) .nil .nil)))) (.node (some a23) (.node (some a39) (.node none (.node (some a135) (.node (some a263) .nil .nil) .nil) (.node (some a199) (.node none .nil .nil) .nil)) (.node (some a103) (.node (some a167) (.node (some a295) .nil .nil) .nil) (.node (some a231) .nil .nil))) (.node (some a55) (.node (some a87) (.node (some a151) (.node (some a279) .nil .nil) .nil) (.node (some a215) .nil .nil)) (.node (some a119) (.node (some a183) (.node (some a311) .nil .nil) .nil) (.node (some a247) .nil .nil))))) (.node (some a11) (.node (some a19) (.node (some a35) (.node (some a67) (.node (some a131) (.node (some a259) .nil .nil) .nil) (.node (some a195) (.node (some a323) .nil .nil) .nil)) (.node (some a99) (.node (some a163) (.node (some a291) .nil .nil) .nil) (.node (some a227) .nil .nil))) (.node (some a51) (.node (some a83) (.node (some a147) (.node (some a275) .nil .nil) .nil) (.node (some a211) (.node none .nil .nil) .nil)) (.node (some a115) (.node (some a179) (.node (some a307) .nil .nil) .nil) (.node (some a243) .nil .nil)))) (.node none (.node (some a43) (.node (some a75) (.node (some a139) (.node (some a267) .nil .nil) .nil) (.node (some a203) (.node none .nil .nil) .nil)) (.node (some a107) (.node (some a171) (.node (some a299) .nil .nil) .nil) (.node (some a235) .nil .nil))) (.node (some a59) (.node (some a91) (.node (some a155) (.node (some a283) .nil .nil) .nil) (.node (some a219) .nil .nil)) (.node (some a123) (.node (some a187) (.node (some a315) .nil .nil) .nil) (.node (some a251) .nil .nil)))))) (.node (some a5) (.node (some a9) (.node (some a17) (.node (some a33) (.node none (.node (some a129) (.node (some a257) .nil .nil) .nil) (.node (some a193) (.node (some a321) .nil .nil) .nil)) (.node (some a97) (.node (some a161) (.node (some a289) .nil .nil) .nil) (.node (some a225) .nil .nil))) (.node (some a49) (.node (some a81) (.node (some a145) (.node (some a273) .nil .nil) .nil) (.node (some a209) (.node none .nil .nil) .nil)) (.node (some a113) (.node (some a177) (.node (some a305) .nil .nil) .nil) (.node (some a241) .nil .nil)))) (.node (some a25) (.node (some a41) (.node none (.node (some a137) (.node (some a265) .nil .nil) .nil) (.node (some a201) (.node none .nil .nil) .nil)) (.node (some a105) (.node (some a169) (.node (some a297) .nil .nil) .nil) (.node (some a233) .nil .nil))) (.node none (.node (some a89) (.node (some a153) (.node (some a281) .nil .nil) .nil) (.node (some a217) .nil .nil)) (.node (some a121) (.node (some a185) (.node (some a313) .nil .nil) .nil) (.node (some a249) .nil .nil))))) (.node (some a13) (.node (some a21) (.node (some a37) (.node (some a69) (.node (some a133) (.node (some a261) .nil .nil) .nil) (.node (some a197) (.node none .nil .nil) .nil)) (.node (some a101) (.node (some a165) (.node (some a293) .nil .nil) .nil) (.node (some a229) .nil .nil))) (.node (some a53) (.node (some a85) (.node (some a149) (.node (some a277) .nil .nil) .nil) (.node (some a213) (.node none .nil .nil) .nil)) (.node (some a117) (.node (some a181) (.node (some a309) .nil .nil) .nil) (.node (some a245) .nil .nil)))) (.node (some a29) (.node (some a45) (.node (some a77) (.node (some a141) (.node (some a269) .nil .nil) .nil) (.node (some a205) (.node none .nil .nil) .nil)) (.node none (.node (some a173) (.node (some a301) .nil .nil) .nil) (.node (some a237) .nil .nil))) (.node (some a61) (.node (some a93) (.node (some a157) (.node (some a285) .nil .nil) .nil) (.node (some a221) .nil .nil)) (.node (some a125) (.node (some a189) (.node (some a317) .nil .nil) .nil) (.node (some a253) .nil .nil))))))) (.node none (.node none (.node (some a8) (.node none (.node (some a32) (.node (some a64) (.node (some a128) (.node (some a256) .nil .nil) .nil) (.node (some a192) (.node (some a320) .nil .nil) .nil)) (.node (some a96) (.node (some a160) (.node (some a288) .nil .nil) .nil) (.node (some a224) .nil .nil))) (.node (some a48) (.node (some a80) (.node (some a144) (.node (some a272) .nil .nil) .nil) (.node (some a208) (.node none .nil .nil) .nil)) (.node (some a112) (.node (some a176) (.node (some a304) .nil .nil) .nil) (.node (some a240) .nil .nil)))) (.node (some a24) (.node (some a40) (.node (some a72) (.node (some a136) (.node (some a264) .nil .nil) .nil) (.node (some a200) (.node none .nil .nil) .nil)) (.node (some a104) (.node (some a168) (.node (some a296) .nil .nil) .nil) (.node (some a232) .nil .nil))) (.node (some a56) (.node (some a88) (.node (some a152) (.node (some a280) .nil .nil) .nil) (.node (some a216) .nil .nil)) (.node (some a120) (.node (some a184) (.node (some a312) .nil .nil) .nil) (.node (some a248) .nil .nil))))) (.node (some a12) (.node none (.node (some a36) (.node (some a68) (.node (some a132) (.node (some a260) .nil .nil) .nil) (.node (some a196) (.node none .nil .nil) .nil)) (.node (some a100) (.node (some a164) (.node (some a292) .nil .nil) .nil) (.node (some a228) .nil .nil))) (.node (some a52) (.node (some a84) (.node (some a148) (.node (some a276) .nil .nil) .nil) (.node (some a212) (.node none .nil .nil) .nil)) (.node (some a116) (.node (some a180) (.node (some a308) .nil .nil) .nil) (.node (some a244) .nil .nil)))) (.node (some a28) (.node (some a44) (.node (some a76) (.node (some a140) (.node (some a268) .nil .nil) .nil) (.node (some a204) (.node none .nil .nil) .nil)) (.node (some a108) (.node (some a172) (.node (some a300) .nil .nil) .nil) (.node (some a236) .nil .nil))) (.node (some a60) (.node (some a92) (.node (some a156) (.node (some a284) .nil .nil) .nil) (.node (some a220) .nil .nil)) (.node (some a124) (.node (some a188) (.node (some a316) .nil .nil) .nil) (.node (some a252) .nil .nil)))))) (.node (some a6) (.node (some a10) (.node (some a18) (.node (some a34) (.node (some a66) (.node (some a130) (.node (some a258) .nil .nil) .nil) (.node (some a194) (.node (some a322) .nil .nil) .nil)) (.node (some a98) (.node (some a162) (.node (some a290) .nil .nil) .nil) (.node none .nil .nil))) (.node (some a50) (.node (some a82) (.node (some a146) (.node (some a274) .nil .nil) .nil) (.node (some a210) (.node none .nil .nil) .nil)) (.node (some a114) (.node (some a178) (.node (some a306) .nil .nil) .nil) (.node (some a242) .nil .nil)))) (.node none (.node (some a42) (.node none (.node (some a138) (.node (some a266) .nil .nil) .nil) (.node (some a202) (.node none .nil .nil) .nil)) (.node (some a106) (.node (some a170) (.node (some a298) .nil .nil) .nil) (.node (some a234) .nil .nil))) (.node (some a58) (.node (some a90) (.node (some a154) (.node (some a282) .nil .nil) .nil) (.node (some a218) .nil .nil)) (.node (some a122) (.node (some a186) (.node (some a314) .nil .nil) .nil) (.node (some a250) .nil .nil))))) (.node (some a14) (.node none (.node (some a38) (.node (some a70) (.node (some a134) (.node (some a262) .nil .nil) .nil) (.node (some a198) (.node none .nil .nil) .nil)) (.node (some a102) (.node (some a166) (.node (some a294) .nil .nil) .nil) (.node (some a230) .nil .nil))) (.node (some a54) (.node (some a86) (.node (some a150) (.node (some a278) .nil .nil) .nil) (.node (some a214) (.node none .nil .nil) .nil)) (.node (some a118) (.node (some a182) (.node (some a310) .nil .nil) .nil) (.node (some a246) .nil .nil)))) (.node (some a30) (.node (some a46) (.node (some a78) (.node (some a142) (.node (some a270) .nil .nil) .nil) (.node (some a206) (.node none .nil .nil) .nil)) (.node (some a110) (.node (some a174) (.node (some a302) .nil .nil) .nil) (.node (some a238) .nil .nil))) (.node (some a62) (.node (some a94) (.node (some a158) (.node none .nil .nil) .nil) (.node (some a222) .nil .nil)) (.node (some a126) (.node (some a190) (.node (some a318) .nil .nil) .nil) (.node (some a254) .nil .nil))))))))
end Go.Proofs.YtcdebohjjkffkaaGreat.tr
