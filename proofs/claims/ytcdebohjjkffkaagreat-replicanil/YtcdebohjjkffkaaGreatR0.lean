/- The functions' compact code, printed by program. -/
import Derived.Test.YtcdebohjjkffkaaGreatRfA
namespace Go.Proofs.YtcdebohjjkffkaaGreat.tr
open Go Go.Rf
@[reducible] def zl0 : List Cell := [dc (.bool false), dc (.bool false), dc (.bool false), dc (.bool false), dc (.bool false), dc (.bool false), dc (.bool false)]
@[reducible] def zl1 : List Cell := [dc (.int .i64 0), dc (.int .i64 0), dc (.int .i64 0), dc (.int .i64 0), dc (.int .u64 0), dc (.str [])]
@[reducible] def zl2 : List Cell := [dc (.int .i64 0), dc (.int .i64 0), dc (.int .i64 0), dc (.int .i64 0), dc (.sl [] true)]
@[reducible] def zl3 : List Cell := [dc (.int .i64 0), dc (.int .i64 0), dc (.int .i64 0), dc (.int .i64 0)]
@[reducible] def zl4 : List Cell := [dc (.int .i64 0), dc (.int .i64 0), dc (.int .i64 0), dc (.nilm)]
@[reducible] def zl5 : List Cell := [dc (.int .i64 0), dc (.int .i64 0), dc (.int .u64 0), dc (.str [])]
@[reducible] def zl6 : List Cell := [dc (.int .i64 0), dc (.int .i64 0), dc (.sl [] true)]
@[reducible] def zl7 : List Cell := [dc (.int .i64 0), dc (.int .i64 0)]
@[reducible] def zl8 : List Cell := [dc (.int .i64 0), dc (.nilm), dc (.sl [] true), dc (.int .i64 0), dc (.int .i64 0), dc (.bool false), dc (.int .i64 0)]
@[reducible] def zl9 : List Cell := [dc (.int .i64 0), dc (.sl [] true)]
@[reducible] def zl10 : List Cell := [dc (.int .i64 0), dc (.str []), dc (.sl [] true), dc (.int .i64 0), dc (.int .i64 0), dc (.int .i64 0), dc (.int .i64 0), dc (.sl [] true), dc (.sl [] true), dc (.int .i64 0), dc (.bool false)]
@[reducible] def zl11 : List Cell := [dc (.int .i64 0), dc (.str []), dc (.sl [] true), dc (.int .i64 0), dc (.int .i64 0), dc (.str []), dc (.sl [] true), dc (.int .i64 0)]
@[reducible] def zl12 : List Cell := [dc (.int .i64 0), dc (.str []), dc (.sl [] true), dc (.int .i64 0)]
@[reducible] def zl13 : List Cell := [dc (.int .i64 0), dc (.str []), dc (.str []), dc (.bool false)]
@[reducible] def zl14 : List Cell := [dc (.int .i64 0), dc (.str [])]
@[reducible] def zl15 : List Cell := [dc (.int .u32 0), dc (.int .u32 0), dc (.int .u32 0), dc (.int .u32 0), dc (.int .u32 0), dc (.int .u32 0), dc (.int .u32 0), dc (.int .u32 0), dc (.int .u32 0), dc (.int .u32 0), dc (.int .u32 0), dc (.int .u32 0), dc (.int .u32 0), dc (.int .u32 0), dc (.int .u32 0), dc (.int .u32 0), dc (.int .u32 0), dc (.int .u32 0), dc (.int .u32 0), dc (.int .u32 0), dc (.int .u32 0), dc (.int .u32 0), dc (.int .u32 0), dc (.int .u32 0), dc (.int .u32 0), dc (.int .u32 0), dc (.int .u32 0), dc (.int .u32 0), dc (.int .u32 0), dc (.int .u32 0), dc (.int .u32 0), dc (.int .u32 0), dc (.int .u32 0), dc (.int .u32 0), dc (.int .u32 0), dc (.int .u32 0), dc (.int .u32 0), dc (.int .u32 0), dc (.int .u32 0), dc (.int .u32 0), dc (.int .u32 0), dc (.int .u32 0), dc (.int .u32 0), dc (.int .u32 0), dc (.int .u32 0), dc (.int .u32 0), dc (.int .u32 0), dc (.int .u32 0), dc (.int .u32 0), dc (.int .u32 0), dc (.int .u32 0), dc (.int .u32 0), dc (.int .u32 0), dc (.int .u32 0), dc (.int .u32 0), dc (.int .u32 0), dc (.int .u32 0), dc (.int .u32 0), dc (.int .u32 0), dc (.int .u32 0), dc (.int .u32 0), dc (.int .u32 0), dc (.int .u32 0), dc (.int .u32 0), dc (.int .u32 0), dc (.int .u32 0), dc (.int .u32 0), dc (.int .u32 0), dc (.int .u32 0), dc (.int .u32 0), dc (.int .u32 0), dc (.int .u32 0), dc (.int .u32 0), dc (.int .u32 0), dc (.int .u32 0), dc (.int .u32 0), dc (.int .u32 0), dc (.int .u32 0), dc (.int .u32 0), dc (.int .u32 0), dc (.int .u32 0), dc (.int .u32 0), dc (.int .u32 0), dc (.int .u32 0), dc (.int .u32 0), dc (.int .u32 0), dc (.int .u32 0), dc (.int .u32 0), dc (.int .u32 0), dc (.int .u32 0), dc (.int .u32 0), dc (.int .u32 0), dc (.int .u32 0), dc (.int .u32 0), dc (.int .u32 0), dc (.int .u32 0), dc (.int .u32 0), dc (.int .u32 0), dc (.int .u32 0), dc (.int .u32 0), dc (.int .u32 0), dc (.int .u32 0), dc (.int .u32 0), dc (.int .u32 0), dc (.int .u32 0), dc (.int .u32 0), dc (.int .u32 0), dc (.int .u32 0), dc (.int .u32 0), dc (.int .u32 0), dc (.int .u32 0), dc (.int .u32 0), dc (.int .u32 0), dc (.int .u32 0), dc (.int .u32 0), dc (.int .u32 0), dc (.int .u32 0), dc (.int .u32 0), dc (.int .u32 0), dc (.int .u32 0), dc (.int .u32 0), dc (.int .u32 0), dc (.int .u32 0), dc (.int .u32 0), dc (.int .u32 0), dc (.int .u32 0), dc (.int .u32 0), dc (.int .u32 0), dc (.int .u32 0), dc (.int .u32 0), dc (.int .u32 0), dc (.int .u32 0), dc (.int .u32 0), dc (.int .u32 0), dc (.int .u32 0), dc (.int .u32 0), dc (.int .u32 0), dc (.int .u32 0), dc (.int .u32 0), dc (.int .u32 0), dc (.int .u32 0), dc (.int .u32 0), dc (.int .u32 0), dc (.int .u32 0), dc (.int .u32 0), dc (.int .u32 0), dc (.int .u32 0), dc (.int .u32 0), dc (.int .u32 0), dc (.int .u32 0), dc (.int .u32 0), dc (.int .u32 0), dc (.int .u32 0), dc (.int .u32 0), dc (.int .u32 0), dc (.int .u32 0), dc (.int .u32 0), dc (.int .u32 0), dc (.int .u32 0), dc (.int .u32 0), dc (.int .u32 0), dc (.int .u32 0), dc (.int .u32 0), dc (.int .u32 0), dc (.int .u32 0), dc (.int .u32 0), dc (.int .u32 0), dc (.int .u32 0), dc (.int .u32 0), dc (.int .u32 0), dc (.int .u32 0), dc (.int .u32 0), dc (.int .u32 0), dc (.int .u32 0), dc (.int .u32 0), dc (.int .u32 0), dc (.int .u32 0), dc (.int .u32 0), dc (.int .u32 0), dc (.int .u32 0), dc (.int .u32 0), dc (.int .u32 0), dc (.int .u32 0), dc (.int .u32 0), dc (.int .u32 0), dc (.int .u32 0), dc (.int .u32 0), dc (.int .u32 0), dc (.int .u32 0), dc (.int .u32 0), dc (.int .u32 0), dc (.int .u32 0), dc (.int .u32 0), dc (.int .u32 0), dc (.int .u32 0), dc (.int .u32 0), dc (.int .u32 0), dc (.int .u32 0), dc (.int .u32 0), dc (.int .u32 0), dc (.int .u32 0), dc (.int .u32 0), dc (.int .u32 0), dc (.int .u32 0), dc (.int .u32 0), dc (.int .u32 0), dc (.int .u32 0), dc (.int .u32 0), dc (.int .u32 0), dc (.int .u32 0), dc (.int .u32 0), dc (.int .u32 0), dc (.int .u32 0), dc (.int .u32 0), dc (.int .u32 0), dc (.int .u32 0), dc (.int .u32 0), dc (.int .u32 0), dc (.int .u32 0), dc (.int .u32 0), dc (.int .u32 0), dc (.int .u32 0), dc (.int .u32 0), dc (.int .u32 0), dc (.int .u32 0), dc (.int .u32 0), dc (.int .u32 0), dc (.int .u32 0), dc (.int .u32 0), dc (.int .u32 0), dc (.int .u32 0), dc (.int .u32 0), dc (.int .u32 0), dc (.int .u32 0), dc (.int .u32 0), dc (.int .u32 0), dc (.int .u32 0), dc (.int .u32 0), dc (.int .u32 0), dc (.int .u32 0), dc (.int .u32 0), dc (.int .u32 0), dc (.int .u32 0), dc (.int .u32 0), dc (.int .u32 0), dc (.int .u32 0), dc (.int .u32 0), dc (.int .u32 0), dc (.int .u32 0), dc (.int .u32 0), dc (.int .u32 0), dc (.int .u32 0), dc (.int .u32 0), dc (.int .u32 0), dc (.int .u32 0), dc (.int .u32 0)]
@[reducible] def zl16 : List Cell := [dc (.int .u8 0), dc (.int .u8 0)]
@[reducible] def zl17 : List Cell := [dc (.nilf), dc (.nilf), dc (.nilf), dc (.nilf)]
@[reducible] def zl18 : List Cell := [dc (.nilp), dc (.int .i64 0), dc (.int .i64 0), dc (.int .i64 0), dc (.int .i64 0), dc (.int .i64 0), dc (.sl [] true), dc (.bool false)]
@[reducible] def zl19 : List Cell := [dc (.nilp), dc (.int .i64 0), dc (.nilm)]
@[reducible] def zl20 : List Cell := [dc (.nilp), dc (.nilp), dc (.int .i64 0), dc (.nilm), dc (.bool false)]
@[reducible] def zl21 : List Cell := [dc (.nilp), dc (.nilp), dc (.int .i64 0)]
@[reducible] def zl22 : List Cell := [dc (.nilp), dc (.nilp), dc (.nilp), dc (.int .i64 0), dc (.sl [] true), dc (.bool false)]
@[reducible] def zl23 : List Cell := [dc (.nilp), dc (.str []), dc (.bool false), dc (.int .i64 0), dc (.int .i64 0), dc (.int .i64 0)]
@[reducible] def zl24 : List Cell := [dc (.str []), dc (.bool false)]
@[reducible] def zl25 : List Cell := [dc (.str []), dc (.int .i64 0), dc (.bool false), dc (.str []), dc (.int .i64 0), dc (.bool false)]
@[reducible] def zl26 : List Cell := [dc (.str []), dc (.int .i64 0), dc (.bool false)]
@[reducible] def zl27 : List Cell := [dc (.str []), dc (.int .i64 0), dc (.int .i64 0), dc (.int .i64 0), dc (.int .i64 0), dc (.sl [] true)]
@[reducible] def zl28 : List Cell := [dc (.str []), dc (.int .i64 0), dc (.int .i64 0)]
@[reducible] def zl29 : List Cell := [dc (.str []), dc (.sl [] true), dc (.int .i64 0)]
@[reducible] def Q (d : Nat) (q : QOp) : AOper := ⟨some d, .q q, none, 0⟩
@[reducible] def E (d : Nat) (q : EOp) : AOper := ⟨some d, .e q, none, 0⟩
@[reducible] def M (d : Nat) (q : MOp) : AOper := ⟨some d, .m q, none, 0⟩
@[reducible] def V (d t : Nat) : AOper := ⟨some d, .q (.mov (.t t)), none, 0⟩
@[reducible] def G (d : Nat) (q : QOp) (t : Nat) (w : Bool) : AOper := ⟨some d, .q q, some (t, w), 0⟩
@[reducible] def S (s x y : Nat) : AOper := ⟨none, .e (.store s (.t x) (.t y)), none, 0⟩
@[reducible] def W (i d t a : Nat) : DOp := ⟨i, ⟨some d, .q (.mov (.t t)), none, a⟩⟩
@[reducible] def D (i d : Nat) (q : QOp) (a : Nat) : DOp := ⟨i, ⟨some d, .q q, none, a⟩⟩
@[reducible] def ci (n : Int) : AOpd := .c (.one (dc (.int .i64 n)))
@[reducible] def cb (b : Bool) : AOpd := .c (.one (dc (.bool b)))
@[reducible] def cs (l : List Nat) : AOpd := .c (.one (dc (.str l)))
def c5 : ACode :=
.seq (
.region [M 3 (.box 74 11 (.t 1)),
Q 4 (.mov (cb false))]) (
.seq (
.region [Q 5 (.mov (.c (.one (dc (.nilp)))))]) (
.seq (
.region [Q 15 (.build zl21 []),
M 16 (.box 79 3 (.t 15)),
V 6 16]) (
.seq (
.region [V 18 5,
Q 19 (.load true 11 (.t 3)),
E 20 (.callf 28 [(.t 18), (.t 19)]),
V 17 20,
Q 21 (.extract 0 (.t 17)),
Q 22 (.extract 1 (.t 17)),
V 7 21,
V 8 22]) (
.seq (
.region [V 24 6,
Q 25 (.load true 11 (.t 3)),
E 26 (.callf 28 [(.t 24), (.t 25)]),
V 23 26,
Q 27 (.extract 0 (.t 23)),
Q 28 (.extract 1 (.t 23)),
V 9 27,
V 10 28]) (
.seq (
.region [V 30 5,
E 31 (.callf 29 [(.t 30), (ci 1)]),
V 29 31,
Q 32 (.extract 0 (.t 29)),
Q 33 (.extract 1 (.t 29)),
V 11 32,
V 12 33]) (
.seq (
.region [V 35 6,
E 36 (.callf 29 [(.t 35), (ci 1)]),
V 34 36,
Q 37 (.extract 0 (.t 34)),
Q 38 (.extract 1 (.t 34)),
V 13 37,
V 14 38]) (
.seq (
.region [V 39 5,
E 40 (.callf 30 [(.t 39), (ci 1)])]) (
.seq (
.region [V 41 6,
E 42 (.callf 30 [(.t 41), (ci 1)])]) (
.seq (
.region [V 43 8,
Q 44 (.bin .eql .scalar (.t 43) (ci 13)),
V 45 44,
G 46 (.mov (.t 10)) 45 true,
G 47 (.bin .eql .scalar (.t 46) (ci 13)) 45 true,
Q 48 (.pick (.t 45) (.t 47) (cb false)),
V 49 48,
G 50 (.mov (.t 12)) 49 true,
G 51 (.bin .eql .scalar (.t 50) (ci 13)) 49 true,
Q 52 (.pick (.t 49) (.t 51) (cb false)),
V 53 52,
G 54 (.mov (.t 14)) 53 true,
G 55 (.bin .eql .scalar (.t 54) (ci 13)) 53 true,
Q 56 (.pick (.t 53) (.t 55) (cb false)),
V 57 56,
G 58 (.mov (.t 5)) 57 true,
G 59 (.mov (.t 0)) 57 true,
⟨some 60, .e (.callf 31 [(.t 58), (.t 59)]), some (57, true), 0⟩,
G 61 (.len .sl (.t 60)) 57 true,
G 62 (.bin .eql .scalar (.t 61) (ci 0)) 57 true,
Q 63 (.pick (.t 57) (.t 62) (cb false)),
V 64 63,
G 65 (.mov (.t 6)) 64 true,
G 66 (.mov (.t 0)) 64 true,
⟨some 67, .e (.callf 31 [(.t 65), (.t 66)]), some (64, true), 0⟩,
G 68 (.len .sl (.t 67)) 64 true,
G 69 (.bin .eql .scalar (.t 68) (ci 0)) 64 true,
Q 70 (.pick (.t 64) (.t 69) (cb false)),
V 71 70,
G 72 (.mov (.t 5)) 71 true,
⟨some 73, .e (.callf 32 [(.t 72)]), some (71, true), 0⟩,
G 74 (.bin .eql .scalar (.t 73) (ci 13)) 71 true,
Q 75 (.pick (.t 71) (.t 74) (cb false)),
V 76 75,
G 77 (.mov (.t 6)) 76 true,
⟨some 78, .e (.callf 32 [(.t 77)]), some (76, true), 0⟩,
G 79 (.bin .eql .scalar (.t 78) (ci 13)) 76 true,
Q 80 (.pick (.t 76) (.t 79) (cb false)),
V 81 80,
G 82 (.mov (.t 5)) 81 true,
⟨some 83, .e (.callf 33 [(.t 82), (.c (.one (dc (.sl [] true))))]), some (81, true), 0⟩,
G 84 (.bin .eql .scalar (.t 83) (ci 13)) 81 true,
Q 85 (.pick (.t 81) (.t 84) (cb false)),
V 86 85,
G 87 (.mov (.t 6)) 86 true,
⟨some 88, .e (.callf 33 [(.t 87), (.c (.one (dc (.sl [] true))))]), some (86, true), 0⟩,
G 89 (.bin .eql .scalar (.t 88) (ci 13)) 86 true,
Q 90 (.pick (.t 86) (.t 89) (cb false)),
V 91 90,
G 92 (.mov (.t 5)) 91 true,
⟨some 93, .e (.callf 34 [(.t 92)]), some (91, true), 0⟩,
G 94 (.bin .eql .scalar (.t 93) (ci 13)) 91 true,
Q 95 (.pick (.t 91) (.t 94) (cb false)),
V 96 95,
G 97 (.mov (.t 6)) 96 true,
⟨some 98, .e (.callf 34 [(.t 97)]), some (96, true), 0⟩,
G 99 (.bin .eql .scalar (.t 98) (ci 13)) 96 true,
Q 100 (.pick (.t 96) (.t 99) (cb false)),
V 101 100,
G 102 (.mov (.t 5)) 101 true,
⟨some 103, .e (.callf 35 [(.t 102)]), some (101, true), 0⟩,
G 104 (.un .not (.t 103)) 101 true,
Q 105 (.pick (.t 101) (.t 104) (cb false)),
V 106 105,
G 107 (.mov (.t 6)) 106 true,
⟨some 108, .e (.callf 35 [(.t 107)]), some (106, true), 0⟩,
G 109 (.un .not (.t 108)) 106 true,
Q 110 (.pick (.t 106) (.t 109) (cb false)),
V 111 110,
G 112 (.mov (.t 5)) 111 true,
⟨some 113, .e (.callf 36 [(.t 112)]), some (111, true), 0⟩,
G 114 (.bin .eql .scalar (.t 113) (ci 0)) 111 true,
Q 115 (.pick (.t 111) (.t 114) (cb false)),
V 116 115,
G 117 (.mov (.t 5)) 116 true,
⟨some 118, .e (.callf 37 [(.t 117)]), some (116, true), 0⟩,
G 119 (.bin .eql .scalar (.t 118) (ci (-1))) 116 true,
Q 120 (.pick (.t 116) (.t 119) (cb false)),
V 121 120,
G 122 (.mov (.t 6)) 121 true,
⟨some 123, .e (.callf 37 [(.t 122)]), some (121, true), 0⟩,
G 124 (.bin .eql .scalar (.t 123) (ci (-1))) 121 true,
Q 125 (.pick (.t 121) (.t 124) (cb false)),
V 126 125,
G 127 (.mov (.t 5)) 126 true,
⟨some 128, .e (.callf 38 [(.t 127)]), some (126, true), 0⟩,
G 129 (.bin .eql .scalar (.t 128) (ci 0)) 126 true,
Q 130 (.pick (.t 126) (.t 129) (cb false)),
V 131 130,
G 132 (.mov (.t 5)) 131 true,
⟨some 133, .e (.callf 39 [(.t 132)]), some (131, true), 0⟩,
G 134 (.bin .eql .scalar (.t 133) (ci 0)) 131 true,
Q 135 (.pick (.t 131) (.t 134) (cb false)),
V 136 135,
G 137 (.mov (.t 5)) 136 true,
⟨some 138, .e (.callf 40 [(.t 137)]), some (136, true), 0⟩,
G 139 (.bin .eql .scalar (.t 138) (ci 0)) 136 true,
Q 140 (.pick (.t 136) (.t 139) (cb false)),
V 141 140,
G 142 (.mov (.t 6)) 141 true,
⟨some 143, .e (.callf 40 [(.t 142)]), some (141, true), 0⟩,
G 144 (.bin .eql .scalar (.t 143) (ci 0)) 141 true,
Q 145 (.pick (.t 141) (.t 144) (cb false)),
V 146 145,
⟨some 147, .e (.callf 41 []), some (146, true), 0⟩,
Q 148 (.pick (.t 146) (.t 147) (cb false)),
V 4 148]) (
.ret))))))))))
def a5 : AFunc := ⟨c5, [.tmp 4], true⟩
def c6 : ACode :=
.seq (
.region [Q 8 (.mov (.c (.one (dc (.sl [] true))))),
Q 9 (.mov (ci 0))]) (
.seq (
.region [V 16 0,
V 17 1,
V 18 3,
E 19 (.callf 7 [(.t 16), (.t 17), (.t 18)]),
V 15 19,
Q 20 (.extract 0 (.t 15)),
Q 21 (.extract 1 (.t 15)),
M 10 (.alloc 36 3 zl29),
S 3 10 20,
V 11 21]) (
.seq (
.seq (
.region [V 22 11,
Q 23 (.bin .neq .scalar (.t 22) (ci 0))]) (
.cond (.t 23) (
.seq (
.region [V 24 11,
Q 8 (.mov (.c (.one (dc (.sl [] true))))),
V 9 24]) (
.ret)) (
.skip))) (
.seq (
.region [Q 12 (.mov (.c (.one (dc (.sl [] true)))))]) (
.seq (
.seq (
.region [V 25 0,
Q 26 (.nilck (.t 25)),
Q 27 (.faddr 3 (.t 26)),
Q 28 (.load false 1 (.t 27)),
V 29 1,
Q 30 (.lookup .str (.one (dc (.nilp))) false (.t 28) (.t 29)),
Q 31 (.nilck (.t 30)),
Q 32 (.faddr 1 (.t 31)),
Q 33 (.load false 1 (.t 32)),
V 34 2,
Q 35 (.lookup .str (.one (dc (.sl [] true))) false (.t 33) (.t 34)),
V 36 3,
E 37 (.callf 42 [(.t 35), (.t 36)]),
Q 38 (.len .sl (.t 37)),
Q 39 (.mov (ci 0))]) (
.block 0 (
.loop (
.seq (
.region [Q 40 (.bin .lss .scalar (.t 39) (.t 38))]) (
.seq (
.cond (.t 40) (
.skip) (
.exit 0)) (
.seq (
.block 1 (
.seq (
.region [Q 41 (.iaddr 3 none (.t 37) (.t 39)),
Q 42 (.load true 3 (.t 41)),
M 14 (.alloc 98 3 zl6),
S 3 14 42]) (
.region [V 43 12,
Q 44 (.load true 3 (.t 10)),
Q 45 (.load true 3 (.t 14)),
E 46 (.callf 43 [(.t 44), (.t 45)]),
M 47 (.bslice 98 3 1 zl6 [(0, 3, (.t 46))]),
E 48 (.append 98 3 40 (.t 43) (.t 47)),
V 12 48]))) (
.region [Q 49 (.bin .add .scalar (.t 39) (ci 1)),
V 39 49]))))))) (
.seq (
.region [V 50 12,
V 8 50,
Q 9 (.mov (ci 0))]) (
.ret))))))
def a6 : AFunc := ⟨c6, [.tmp 8, .tmp 9], true⟩
def c7 : ACode :=
.seq (
.region [M 6 (.alloc 36 3 zl29),
Q 7 (.mov (ci 0))]) (
.seq (
.seq (
.region [V 14 0,
V 15 2,
E 16 (.callf 44 [(.t 14), (.t 15)]),
V 8 16]) (
.seq (
.region [V 17 8,
Q 18 (.bin .neq .scalar (.t 17) (ci 0))]) (
.cond (.t 18) (
.seq (
.region [Q 19 (.build zl29 []),
V 20 8,
S 3 6 19,
V 7 20]) (
.ret)) (
.skip)))) (
.seq (
.region [M 9 (.alloc 36 3 zl29)]) (
.seq (
.region [Q 10 (.mov (ci 18))]) (
.seq (
.seq (
.region [V 21 0,
Q 22 (.nilck (.t 21)),
Q 23 (.faddr 3 (.t 22)),
Q 24 (.load false 1 (.t 23)),
V 25 1,
Q 26 (.lookup .str (.one (dc (.nilp))) false (.t 24) (.t 25)),
V 11 26]) (
.seq (
.region [V 27 11,
Q 28 (.bin .neq .ptr (.t 27) (.c (.one (dc (.nilp)))))]) (
.cond (.t 28) (
.seq (
.region [V 29 11,
Q 30 (.nilck (.t 29)),
Q 31 (.faddr 0 (.t 30)),
Q 32 (.load false 1 (.t 31)),
Q 33 (.len .sl (.t 32)),
Q 34 (.mov (ci 0))]) (
.block 0 (
.loop (
.seq (
.region [Q 35 (.bin .lss .scalar (.t 34) (.t 33))]) (
.seq (
.cond (.t 35) (
.skip) (
.exit 0)) (
.seq (
.block 1 (
.seq (
.region [Q 36 (.iaddr 4 none (.t 32) (.t 34)),
Q 37 (.load true 4 (.t 36)),
M 13 (.alloc 102 4 zl12),
S 4 13 37]) (
.seq (
.region [Q 38 (.faddr 0 (.t 13)),
Q 39 (.load false 1 (.t 38)),
V 40 2,
Q 41 (.bin .leq .scalar (.t 39) (.t 40))]) (
.cond (.t 41) (
.region [Q 42 (.faddr 1 (.t 13)),
Q 43 (.load true 3 (.t 42)),
S 3 9 43,
Q 10 (.mov (ci 0))]) (
.skip))))) (
.region [Q 44 (.bin .add .scalar (.t 34) (ci 1)),
V 34 44]))))))) (
.skip)))) (
.seq (
.region [Q 45 (.faddr 1 (.t 9)),
Q 46 (.load false 1 (.t 45)),
E 47 (.append 185 3 32 (.c (.one (dc (.sl [] true)))) (.t 46)),
Q 48 (.faddr 1 (.t 9)),
S 1 48 47]) (
.seq (
.region [Q 49 (.load true 3 (.t 9)),
V 50 10,
S 3 6 49,
V 7 50]) (
.ret)))))))
def a7 : AFunc := ⟨c7, [.cell 6 true 3, .tmp 7], true⟩
def c8 : ACode :=
.seq (
.region [M 7 (.box 26 2 (.t 3)),
Q 8 (.mov (.c (.one (dc (.sl [] true))))),
Q 9 (.mov (ci 0))]) (
.seq (
.block 0 (
.seq (
.region [V 15 0,
Q 16 (.bin .eql .ptr (.t 15) (.c (.one (dc (.nilp))))),
V 14 16]) (
.cond (.t 14) (
.seq (
.region [Q 8 (.mov (.c (.one (dc (.sl [] true))))),
Q 9 (.mov (ci 13))]) (
.ret)) (
.seq (
.region [Q 18 (.load true 2 (.t 7)),
E 19 (.callf 45 [(.t 18)]),
Q 20 (.un .not (.t 19)),
V 17 20]) (
.cond (.t 17) (
.seq (
.region [Q 8 (.mov (.c (.one (dc (.sl [] true))))),
Q 9 (.mov (ci 1))]) (
.ret)) (
.seq (
.draw [D 0 22 (.faddr 0 (.t 7)) 0,
D 1 23 (.load false 1 (.t 22)) 1,
W 2 24 0 0,
D 3 25 (.nilck (.t 24)) 4,
D 4 26 (.faddr 2 (.t 25)) 12,
D 5 27 (.load false 1 (.t 26)) 28,
D 6 28 (.bin .lss .scalar (.t 23) (.t 27)) 63,
W 7 21 28 127]) (
.cond (.t 21) (
.seq (
.region [Q 8 (.mov (.c (.one (dc (.sl [] true))))),
Q 9 (.mov (ci 15))]) (
.ret)) (
.seq (
.draw [D 0 30 (.faddr 1 (.t 7)) 0,
D 1 31 (.load false 1 (.t 30)) 1,
W 2 32 0 0,
D 3 33 (.nilck (.t 32)) 4,
D 4 34 (.faddr 1 (.t 33)) 12,
D 5 35 (.load false 1 (.t 34)) 28,
D 6 36 (.bin .add .scalar (.t 35) (ci 1)) 60,
D 7 37 (.bin .gtr .scalar (.t 31) (.t 36)) 127,
W 8 29 37 255]) (
.cond (.t 29) (
.seq (
.region [Q 8 (.mov (.c (.one (dc (.sl [] true))))),
Q 9 (.mov (ci 16))]) (
.ret)) (
.seq (
.region [V 39 0,
Q 40 (.nilck (.t 39)),
Q 41 (.faddr 3 (.t 40)),
Q 42 (.load false 1 (.t 41)),
V 43 1,
Q 44 (.lookup .str (.one (dc (.nilp))) false (.t 42) (.t 43)),
Q 45 (.bin .eql .ptr (.t 44) (.c (.one (dc (.nilp))))),
V 38 45]) (
.cond (.t 38) (
.seq (
.region [Q 8 (.mov (.c (.one (dc (.sl [] true))))),
Q 9 (.mov (ci 18))]) (
.ret)) (
.skip)))))))))))) (
.seq (
.region [V 46 0,
Q 47 (.nilck (.t 46)),
Q 48 (.faddr 3 (.t 47)),
Q 49 (.load false 1 (.t 48)),
V 50 1,
Q 51 (.lookup .str (.one (dc (.nilp))) false (.t 49) (.t 50)),
V 10 51]) (
.seq (
.region [V 52 10,
Q 53 (.nilck (.t 52)),
Q 54 (.faddr 1 (.t 53)),
Q 55 (.load false 1 (.t 54)),
V 56 2,
Q 57 (.lookup .str (.one (dc (.sl [] true))) false (.t 55) (.t 56)),
E 58 (.append 105 5 56 (.c (.one (dc (.sl [] true)))) (.t 57)),
V 11 58]) (
.seq (
.seq (
.region [V 59 11,
Q 60 (.len .sl (.t 59)),
Q 61 (.mov (ci 0))]) (
.block 1 (
.loop (
.seq (
.region [Q 62 (.bin .lss .scalar (.t 61) (.t 60))]) (
.seq (
.cond (.t 62) (
.skip) (
.exit 1)) (
.seq (
.block 2 (
.seq (
.region [V 63 61,
Q 64 (.iaddr 5 none (.t 59) (.t 61)),
Q 65 (.load true 5 (.t 64)),
M 13 (.alloc 105 5 zl2),
V 12 63,
S 5 13 65]) (
.draw [W 0 66 11 0,
W 1 67 12 0,
W 2 68 10 0,
D 4 70 (.faddr 2 (.t 13)) 0,
D 5 71 (.load true 3 (.t 70)) 16,
⟨3, ⟨some 69, .e (.callf 46 [(.t 68)]), none, 4⟩⟩,
⟨6, ⟨some 72, .e (.callf 43 [(.t 69), (.t 71)]), none, 60⟩⟩,
D 7 73 (.iaddr 5 none (.t 66) (.t 67)) 127,
D 8 74 (.faddr 2 (.t 73)) 255,
⟨9, ⟨none, .e (.store 3 (.t 74) (.t 72)), none, 511⟩⟩]))) (
.region [Q 75 (.bin .add .scalar (.t 61) (ci 1)),
V 61 75]))))))) (
.seq (
.region [V 76 11,
Q 77 (.load true 2 (.t 7)),
E 78 (.callf 47 [(.t 76), (.t 77)]),
V 8 78,
Q 9 (.mov (ci 0))]) (
.ret))))))
def a8 : AFunc := ⟨c8, [.tmp 8, .tmp 9], true⟩
def c9 : ACode :=
.seq (
.region [M 3 (.box 3 1 (.t 1)),
Q 4 (.mov (ci 0)),
Q 5 (.mov (ci 0))]) (
.seq (
.seq (
.region [V 7 0,
Q 8 (.load false 1 (.t 3)),
E 9 (.callf 44 [(.t 7), (.t 8)]),
V 6 9]) (
.seq (
.region [V 10 6,
Q 11 (.bin .neq .scalar (.t 10) (ci 0))]) (
.cond (.t 11) (
.seq (
.region [V 12 6,
Q 4 (.mov (ci 0)),
V 5 12]) (
.ret)) (
.skip)))) (
.seq (
.region [V 13 0,
Q 14 (.load false 1 (.t 3)),
Q 15 (.nilck (.t 13)),
Q 16 (.faddr 2 (.t 15)),
S 1 16 14]) (
.seq (
.region [V 17 0,
Q 18 (.mkfn (.func 49) 49 [] [(.t 3)]),
E 19 (.callf 48 [(.t 17), (.t 18)]),
V 4 19,
Q 5 (.mov (ci 0))]) (
.ret))))
def a9 : AFunc := ⟨c9, [.tmp 4, .tmp 5], false⟩
def c10 : ACode :=
.seq (
.region [M 3 (.box 24 3 (.t 1)),
Q 4 (.mov (ci 0))]) (
.seq (
.seq (
.region [V 14 0,
Q 15 (.bin .eql .ptr (.t 14) (.c (.one (dc (.nilp)))))]) (
.cond (.t 15) (
.seq (
.region [Q 4 (.mov (ci 13))]) (
.ret)) (
.skip))) (
.seq (
.seq (
.region [V 16 0,
Q 17 (.load true 3 (.t 3)),
E 18 (.callf 51 [(.t 16), (.t 17)]),
V 5 18]) (
.seq (
.region [V 19 5,
Q 20 (.bin .neq .scalar (.t 19) (ci 0))]) (
.cond (.t 20) (
.seq (
.region [V 21 5,
V 4 21]) (
.ret)) (
.skip)))) (
.seq (
.draw [W 0 22 0 0,
D 2 24 (.faddr 1 (.t 3)) 0,
D 3 25 (.load false 1 (.t 24)) 4,
⟨4, ⟨some 26, .m (.mkmap (.strs 2)), none, 0⟩⟩,
⟨1, ⟨some 23, .e (.callf 19 [(.t 22)]), none, 1⟩⟩,
D 5 27 (.build zl19 [(0, 1, (.t 23)), (1, 1, (.t 25)), (2, 1, (.t 26))]) 31,
⟨6, ⟨some 28, .m (.box 114 3 (.t 27)), none, 63⟩⟩,
W 7 6 28 127]) (
.seq (
.seq (
.region [Q 29 (.faddr 2 (.t 3)),
Q 30 (.load false 1 (.t 29)),
Q 31 (.len .sl (.t 30)),
Q 32 (.mov (ci 0))]) (
.block 0 (
.loop (
.seq (
.region [Q 33 (.bin .lss .scalar (.t 32) (.t 31))]) (
.seq (
.cond (.t 33) (
.skip) (
.exit 0)) (
.seq (
.block 1 (
.seq (
.region [Q 34 (.iaddr 8 none (.t 30) (.t 32)),
Q 35 (.load true 8 (.t 34)),
M 8 (.alloc 116 8 zl11),
S 8 8 35]) (
.seq (
.region [V 36 6,
Q 37 (.load true 8 (.t 8)),
E 38 (.callf 52 [(.t 36), (.t 37)]),
V 9 38]) (
.seq (
.region [V 39 9,
Q 40 (.bin .neq .scalar (.t 39) (ci 0))]) (
.cond (.t 40) (
.seq (
.region [V 41 9,
V 4 41]) (
.ret)) (
.skip)))))) (
.region [Q 42 (.bin .add .scalar (.t 32) (ci 1)),
V 32 42]))))))) (
.seq (
.seq (
.region [V 43 6,
Q 44 (.nilck (.t 43)),
Q 45 (.faddr 2 (.t 44)),
Q 46 (.load false 1 (.t 45)),
M 47 (.range false (.t 46))]) (
.block 2 (
.loop (
.seq (
.region [E 48 (.next false (.t 47)),
Q 49 (.extract 0 (.t 48))]) (
.seq (
.cond (.t 49) (
.skip) (
.exit 2)) (
.block 3 (
.seq (
.region [E 50 (.entry (.t 47)),
Q 51 (.extract 0 (.t 50)),
Q 52 (.extract 1 (.t 50)),
M 10 (.alloc 118 2 [dc (.str []), dc (.str [])]),
S 2 10 51,
V 11 52]) (
.seq (
.draw [W 0 54 6 0,
D 1 55 (.nilck (.t 54)) 1,
D 2 56 (.faddr 0 (.t 55)) 3,
D 3 57 (.load false 1 (.t 56)) 7,
D 4 58 (.nilck (.t 57)) 15,
D 5 59 (.faddr 3 (.t 58)) 31,
D 6 60 (.load false 1 (.t 59)) 63,
D 7 61 (.iaddr 1 (some 2) (.t 10) (ci 0)) 0,
D 8 62 (.load false 1 (.t 61)) 128,
D 9 63 (.lookup .str (.one (dc (.nilp))) false (.t 60) (.t 62)) 511,
D 10 64 (.nilck (.t 63)) 1023,
D 11 65 (.faddr 1 (.t 64)) 2047,
D 12 66 (.load false 1 (.t 65)) 4095,
D 13 67 (.iaddr 1 (some 2) (.t 10) (ci 1)) 0,
D 14 68 (.load false 1 (.t 67)) 8192,
D 15 69 (.lookup .str (.one (dc (.sl [] true))) false (.t 66) (.t 68)) 32767,
D 16 70 (.faddr 1 (.t 3)) 0,
D 17 71 (.load false 1 (.t 70)) 65536,
W 18 72 11 0,
⟨19, ⟨some 73, .e (.callf 53 [(.t 69), (.t 71), (.t 72)]), none, 524287⟩⟩,
W 20 53 73 1048575,
D 21 74 (.extract 0 (.t 53)) 2097151,
D 22 75 (.extract 1 (.t 53)) 2097151,
W 23 12 74 4194303,
W 24 13 75 16777215]) (
.draw [W 0 76 6 0,
D 1 77 (.nilck (.t 76)) 1,
D 2 78 (.faddr 0 (.t 77)) 3,
D 3 79 (.load false 1 (.t 78)) 7,
D 4 80 (.nilck (.t 79)) 15,
D 5 81 (.faddr 3 (.t 80)) 31,
D 6 82 (.load false 1 (.t 81)) 63,
D 7 83 (.iaddr 1 (some 2) (.t 10) (ci 0)) 0,
D 8 84 (.load false 1 (.t 83)) 128,
D 9 85 (.lookup .str (.one (dc (.nilp))) false (.t 82) (.t 84)) 511,
D 10 86 (.iaddr 1 (some 2) (.t 10) (ci 1)) 0,
D 11 87 (.load false 1 (.t 86)) 1024,
W 12 88 12 0,
⟨13, ⟨some 89, .e (.callf 54 [(.t 85), (.t 87), (.t 88)]), none, 8191⟩⟩]))))))))) (
.seq (
.draw [W 0 90 0 0,
W 1 91 0 0,
W 2 92 0 0,
W 3 93 6 0,
D 4 94 (.nilck (.t 93)) 8,
D 5 95 (.faddr 0 (.t 94)) 24,
D 6 96 (.load false 1 (.t 95)) 56,
D 7 97 (.nilck (.t 96)) 120,
D 8 98 (.faddr 3 (.t 97)) 248,
D 9 99 (.load false 1 (.t 98)) 504,
D 10 100 (.faddr 0 (.t 3)) 0,
D 11 101 (.load false 1 (.t 100)) 1024,
D 12 102 (.faddr 1 (.t 3)) 0,
D 13 103 (.load false 1 (.t 102)) 4096,
D 14 104 (.nilck (.t 90)) 1017,
D 15 105 (.faddr 3 (.t 104)) 17401,
⟨16, ⟨none, .e (.store 1 (.t 105) (.t 99)), none, 50169⟩⟩,
D 17 106 (.nilck (.t 91)) 118779,
D 18 107 (.faddr 0 (.t 106)) 249851,
⟨19, ⟨none, .e (.store 1 (.t 107) (.t 101)), none, 511995⟩⟩,
D 20 108 (.nilck (.t 92)) 1048575,
D 21 109 (.faddr 1 (.t 108)) 2097151,
⟨22, ⟨none, .e (.store 1 (.t 109) (.t 103)), none, 4194303⟩⟩]) (
.seq (
.region [Q 4 (.mov (ci 0))]) (
.ret))))))))
def a10 : AFunc := ⟨c10, [.tmp 4], false⟩
def c11 : ACode :=
.seq (
.region [Q 2 (.mov (ci 0))]) (
.seq (
.seq (
.region [V 3 0,
Q 4 (.bin .eql .ptr (.t 3) (.c (.one (dc (.nilp)))))]) (
.cond (.t 4) (
.seq (
.region [Q 2 (.mov (ci 0))]) (
.ret)) (
.skip))) (
.seq (
.region [V 5 0,
Q 6 (.nilck (.t 5)),
Q 7 (.faddr 0 (.t 6)),
Q 8 (.load false 1 (.t 7)),
V 2 8]) (
.ret)))
def a11 : AFunc := ⟨c11, [.tmp 2], true⟩
def c12 : ACode :=
.seq (
.region [Q 2 (.mov (ci 0))]) (
.seq (
.seq (
.region [V 3 0,
Q 4 (.bin .eql .ptr (.t 3) (.c (.one (dc (.nilp)))))]) (
.cond (.t 4) (
.seq (
.region [Q 2 (.mov (ci (-1)))]) (
.ret)) (
.skip))) (
.seq (
.region [V 5 0,
Q 6 (.nilck (.t 5)),
Q 7 (.faddr 1 (.t 6)),
Q 8 (.load false 1 (.t 7)),
V 2 8]) (
.ret)))
def a12 : AFunc := ⟨c12, [.tmp 2], true⟩
def c13 : ACode :=
.seq (
.region [Q 2 (.mov (ci 0))]) (
.seq (
.seq (
.region [V 3 0,
Q 4 (.bin .eql .ptr (.t 3) (.c (.one (dc (.nilp)))))]) (
.cond (.t 4) (
.seq (
.region [Q 2 (.mov (ci 0))]) (
.ret)) (
.skip))) (
.seq (
.region [V 5 0,
Q 6 (.nilck (.t 5)),
Q 7 (.faddr 2 (.t 6)),
Q 8 (.load false 1 (.t 7)),
V 2 8]) (
.ret)))
def a13 : AFunc := ⟨c13, [.tmp 2], true⟩
def c14 : ACode :=
.seq (
.region [Q 2 (.mov (.c (.one (dc (.sl [] true)))))]) (
.seq (
.seq (
.region [V 3 0,
Q 4 (.bin .eql .ptr (.t 3) (.c (.one (dc (.nilp)))))]) (
.cond (.t 4) (
.seq (
.region [Q 2 (.mov (.c (.one (dc (.sl [] true)))))]) (
.ret)) (
.skip))) (
.seq (
.region [V 5 0,
Q 6 (.nilck (.t 5)),
Q 7 (.faddr 3 (.t 6)),
Q 8 (.load false 1 (.t 7)),
E 9 (.callf 55 [(.t 8)]),
V 2 9]) (
.ret)))
def a14 : AFunc := ⟨c14, [.tmp 2], true⟩
def c15 : ACode :=
.seq (
.region [Q 4 (.mov (.c (.one (dc (.sl [] true)))))]) (
.seq (
.seq (
.region [V 5 0,
Q 6 (.bin .eql .ptr (.t 5) (.c (.one (dc (.nilp))))),
V 7 6,
G 8 (.mov (.t 0)) 7 false,
G 9 (.nilck (.t 8)) 7 false,
G 10 (.faddr 3 (.t 9)) 7 false,
G 11 (.load false 1 (.t 10)) 7 false,
G 12 (.mov (.t 1)) 7 false,
G 13 (.lookup .str (.one (dc (.nilp))) false (.t 11) (.t 12)) 7 false,
G 14 (.bin .eql .ptr (.t 13) (.c (.one (dc (.nilp))))) 7 false,
Q 15 (.pick (.t 7) (cb true) (.t 14))]) (
.cond (.t 15) (
.seq (
.region [Q 4 (.mov (.c (.one (dc (.sl [] true)))))]) (
.ret)) (
.skip))) (
.seq (
.region [V 16 0,
Q 17 (.nilck (.t 16)),
Q 18 (.faddr 3 (.t 17)),
Q 19 (.load false 1 (.t 18)),
V 20 1,
Q 21 (.lookup .str (.one (dc (.nilp))) false (.t 19) (.t 20)),
Q 22 (.nilck (.t 21)),
Q 23 (.faddr 1 (.t 22)),
Q 24 (.load false 1 (.t 23)),
E 25 (.callf 56 [(.t 24)]),
V 4 25]) (
.ret)))
def a15 : AFunc := ⟨c15, [.tmp 4], true⟩
def c17 : ACode :=
.seq (
.region [Q 2 (.mov (ci 0))]) (
.seq (
.seq (
.region [V 8 0,
Q 9 (.bin .eql .ptr (.t 8) (.c (.one (dc (.nilp)))))]) (
.cond (.t 9) (
.seq (
.region [Q 2 (.mov (ci 0))]) (
.ret)) (
.skip))) (
.seq (
.region [Q 3 (.mov (ci 0))]) (
.seq (
.seq (
.region [V 10 0,
Q 11 (.nilck (.t 10)),
Q 12 (.faddr 3 (.t 11)),
Q 13 (.load false 1 (.t 12)),
M 14 (.range false (.t 13))]) (
.block 0 (
.loop (
.seq (
.region [E 15 (.next false (.t 14)),
Q 16 (.extract 0 (.t 15))]) (
.seq (
.cond (.t 16) (
.skip) (
.exit 0)) (
.block 1 (
.seq (
.region [E 17 (.entry (.t 14)),
Q 18 (.extract 1 (.t 17)),
V 5 18]) (
.seq (
.region [V 19 5,
Q 20 (.nilck (.t 19)),
Q 21 (.faddr 1 (.t 20)),
Q 22 (.load false 1 (.t 21)),
M 23 (.range false (.t 22))]) (
.block 2 (
.loop (
.seq (
.region [E 24 (.next false (.t 23)),
Q 25 (.extract 0 (.t 24))]) (
.seq (
.cond (.t 25) (
.skip) (
.exit 2)) (
.block 3 (
.seq (
.region [E 26 (.entry (.t 23)),
Q 27 (.extract 1 (.t 26)),
V 7 27]) (
.region [V 28 3,
V 29 7,
Q 30 (.len .sl (.t 29)),
Q 31 (.bin .add .scalar (.t 28) (.t 30)),
V 3 31]))))))))))))))) (
.seq (
.region [V 32 3,
V 2 32]) (
.ret)))))
def a17 : AFunc := ⟨c17, [.tmp 2], true⟩
def c18 : ACode :=
.seq (
.region [Q 2 (.mov (cs []))]) (
.seq (
.seq (
.region [V 6 0,
Q 7 (.bin .eql .ptr (.t 6) (.c (.one (dc (.nilp)))))]) (
.cond (.t 7) (
.seq (
.region [Q 2 (.mov (cs []))]) (
.ret)) (
.skip))) (
.seq (
.draw [W 0 8 0 0,
D 1 9 (.nilck (.t 8)) 1,
D 2 10 (.faddr 0 (.t 9)) 3,
D 3 11 (.load false 1 (.t 10)) 7,
W 4 12 0 0,
D 5 13 (.nilck (.t 12)) 16,
D 6 14 (.faddr 1 (.t 13)) 48,
D 7 15 (.load false 1 (.t 14)) 112,
D 8 16 (.bin .add .scalar (.t 15) (ci 1)) 240,
W 9 17 0 0,
D 10 18 (.nilck (.t 17)) 512,
D 11 19 (.faddr 2 (.t 18)) 1536,
D 12 20 (.load false 1 (.t 19)) 3584,
W 13 21 0 0,
D 14 22 (.nilck (.t 21)) 8192,
D 15 23 (.faddr 3 (.t 22)) 24576,
D 16 24 (.load false 1 (.t 23)) 57344,
D 17 25 (.len .map (.t 24)) 122880,
⟨18, ⟨some 26, .m (.bslice 3 1 4 zl3 [(0, 1, (.t 11)), (1, 1, (.t 16)), (2, 1, (.t 20)), (3, 1, (.t 25))]), none, 262143⟩⟩,
⟨19, ⟨some 27, .e (.callf 58 [(.t 26)]), none, 524287⟩⟩,
W 20 3 27 1048575]) (
.seq (
.seq (
.region [V 28 0,
E 29 (.callf 14 [(.t 28)]),
Q 30 (.len .sl (.t 29)),
Q 31 (.mov (ci 0))]) (
.block 0 (
.loop (
.seq (
.region [Q 32 (.bin .lss .scalar (.t 31) (.t 30))]) (
.seq (
.cond (.t 32) (
.skip) (
.exit 0)) (
.seq (
.block 1 (
.seq (
.region [Q 33 (.iaddr 1 none (.t 29) (.t 31)),
Q 34 (.load false 1 (.t 33)),
V 5 34]) (
.region [V 35 3,
V 36 0,
Q 37 (.nilck (.t 36)),
Q 38 (.faddr 3 (.t 37)),
Q 39 (.load false 1 (.t 38)),
V 40 5,
Q 41 (.lookup .str (.one (dc (.nilp))) false (.t 39) (.t 40)),
E 42 (.callf 59 [(.t 41)]),
Q 43 (.bin .add .scalar (.t 35) (.t 42)),
V 3 43]))) (
.region [Q 44 (.bin .add .scalar (.t 31) (ci 1)),
V 31 44]))))))) (
.seq (
.region [V 45 3,
V 2 45]) (
.ret)))))
def a18 : AFunc := ⟨c18, [.tmp 2], true⟩
def c19 : ACode :=
.seq (
.region [Q 2 (.mov (.c (.one (dc (.nilp)))))]) (
.seq (
.seq (
.region [V 6 0,
Q 7 (.bin .eql .ptr (.t 6) (.c (.one (dc (.nilp)))))]) (
.cond (.t 7) (
.seq (
.region [Q 2 (.mov (.c (.one (dc (.nilp)))))]) (
.ret)) (
.skip))) (
.seq (
.region [V 8 0,
Q 9 (.nilck (.t 8)),
Q 10 (.load true 4 (.t 9)),
M 3 (.alloc 96 4 zl4),
S 4 3 10]) (
.seq (
.region [M 11 (.mkmap .str),
Q 12 (.faddr 3 (.t 3)),
S 1 12 11]) (
.seq (
.seq (
.region [V 13 0,
Q 14 (.nilck (.t 13)),
Q 15 (.faddr 3 (.t 14)),
Q 16 (.load false 1 (.t 15)),
M 17 (.range false (.t 16))]) (
.block 0 (
.loop (
.seq (
.region [E 18 (.next false (.t 17)),
Q 19 (.extract 0 (.t 18))]) (
.seq (
.cond (.t 19) (
.skip) (
.exit 0)) (
.block 1 (
.seq (
.region [E 20 (.entry (.t 17)),
Q 21 (.extract 0 (.t 20)),
Q 22 (.extract 1 (.t 20)),
V 4 21,
V 5 22]) (
.draw [D 0 23 (.faddr 3 (.t 3)) 0,
D 1 24 (.load false 1 (.t 23)) 1,
W 2 25 4 0,
W 3 26 5 0,
⟨4, ⟨some 27, .e (.callf 60 [(.t 26)]), none, 8⟩⟩,
⟨5, ⟨none, .e (.mapup .str (.t 24) (.t 25) (.t 27)), none, 31⟩⟩])))))))) (
.seq (
.region [V 2 3]) (
.ret))))))
def a19 : AFunc := ⟨c19, [.tmp 2], false⟩
def c21 : ACode :=
.seq (
.region [Q 2 (.mov (.c (.one (dc (.nilp))))),
Q 3 (.mov (ci 0))]) (
.seq (
.seq (
.region [V 4 0,
E 5 (.callf 66 [(.t 4)]),
Q 6 (.bin .eql .ptr (.t 5) (.c (.one (dc (.nilp)))))]) (
.cond (.t 6) (
.seq (
.region [Q 2 (.mov (.c (.one (dc (.nilp))))),
Q 3 (.mov (ci 1))]) (
.ret)) (
.skip))) (
.seq (
.region [V 7 0,
V 8 0,
E 9 (.callf 67 [(.t 8)]),
Q 10 (.build zl23 [(0, 1, (.t 7)), (2, 1, (.t 9))]),
M 11 (.box 56 6 (.t 10)),
V 2 11,
Q 3 (.mov (ci 0))]) (
.ret)))
def a21 : AFunc := ⟨c21, [.tmp 2, .tmp 3], false⟩
def c23 : ACode :=
.seq (
.region [Q 4 (.mov (.c (.one (dc (.sl [] true)))))]) (
.seq (
.seq (
.region [V 10 0,
E 11 (.callf 68 [(.t 10)]),
Q 12 (.un .not (.t 11))]) (
.cond (.t 12) (
.seq (
.region [Q 4 (.mov (.c (.one (dc (.sl [] true)))))]) (
.ret)) (
.skip))) (
.seq (
.region [V 13 0,
Q 14 (.nilck (.t 13)),
Q 15 (.faddr 1 (.t 14)),
Q 16 (.load false 1 (.t 15)),
V 17 1,
Q 18 (.bin .add .scalar (.t 16) (.t 17)),
Q 19 (.nilck (.t 13)),
Q 20 (.faddr 1 (.t 19)),
S 1 20 18]) (
.seq (
.region [Q 5 (.mov (.c (.one (dc (.sl [] true)))))]) (
.seq (
.skip) (
.seq (
.block 0 (
.loop (
.block 1 (
.seq (
.region [V 22 0,
Q 23 (.nilck (.t 22)),
Q 24 (.faddr 1 (.t 23)),
Q 25 (.load false 1 (.t 24)),
E 26 (.callf 69 [(.t 25)]),
V 21 26,
Q 27 (.extract 0 (.t 21)),
Q 28 (.extract 1 (.t 21)),
Q 29 (.extract 2 (.t 21)),
V 6 27,
V 7 28,
V 8 29]) (
.seq (
.region [V 30 8,
Q 31 (.build zl7 [(1, 1, (.t 30))]),
M 9 (.alloc 137 2 zl7),
S 2 9 31]) (
.seq (
.seq (
.region [V 32 8]) (
.block 2 (
.seq (
.region [Q 37 (.bin .eql .scalar (.t 32) (ci 8)),
V 36 37]) (
.cond (.t 36) (
.exit 0) (
.seq (
.region [Q 39 (.bin .eql .scalar (.t 32) (ci 0)),
V 38 39]) (
.cond (.t 38) (
.seq (
.region [V 40 0,
V 41 0,
Q 42 (.nilck (.t 41)),
Q 43 (.faddr 1 (.t 42)),
Q 44 (.load false 1 (.t 43)),
V 45 7,
Q 46 (.sslice (.t 44) (some (.t 45)) none),
Q 47 (.nilck (.t 40)),
Q 48 (.faddr 1 (.t 47)),
S 1 48 46]) (
.region [V 49 0,
V 50 6,
E 51 (.callf 70 [(.t 49), (.t 50)]),
S 2 9 51])) (
.region [V 33 0,
Q 34 (.nilck (.t 33)),
Q 35 (.faddr 1 (.t 34)),
⟨none, .e (.store 1 (.t 35) (cs [])), none, 0⟩]))))))) (
.seq (
.seq (
.region [Q 52 (.faddr 1 (.t 9)),
Q 53 (.load false 1 (.t 52)),
Q 54 (.bin .neq .scalar (.t 53) (ci 0))]) (
.cond (.t 54) (
.region [V 55 0,
Q 56 (.nilck (.t 55)),
Q 57 (.faddr 5 (.t 56)),
Q 58 (.load false 1 (.t 57)),
Q 59 (.bin .add .scalar (.t 58) (ci 1)),
Q 60 (.nilck (.t 55)),
Q 61 (.faddr 5 (.t 60)),
S 1 61 59]) (
.skip))) (
.region [V 62 5,
Q 63 (.load true 2 (.t 9)),
M 64 (.bslice 137 2 1 zl7 [(0, 2, (.t 63))]),
E 65 (.append 137 2 16 (.t 62) (.t 64)),
V 5 65])))))))) (
.seq (
.region [V 66 5,
V 4 66]) (
.ret)))))))
def a23 : AFunc := ⟨c23, [.tmp 4], false⟩
def c24 : ACode :=
.seq (
.region [Q 2 (.mov (ci 0))]) (
.seq (
.seq (
.region [V 3 0,
E 4 (.callf 68 [(.t 3)]),
Q 5 (.un .not (.t 4))]) (
.cond (.t 5) (
.seq (
.region [Q 2 (.mov (ci 0))]) (
.ret)) (
.skip))) (
.seq (
.region [V 6 0,
Q 7 (.nilck (.t 6)),
Q 8 (.faddr 0 (.t 7)),
Q 9 (.load false 1 (.t 8)),
E 10 (.callf 66 [(.t 9)]),
E 11 (.callf 11 [(.t 10)]),
V 2 11]) (
.ret)))
def a24 : AFunc := ⟨c24, [.tmp 2], false⟩
def c25 : ACode :=
.seq (
.region [Q 2 (.mov (ci 0))]) (
.seq (
.seq (
.region [V 3 0,
E 4 (.callf 68 [(.t 3)]),
Q 5 (.un .not (.t 4))]) (
.cond (.t 5) (
.seq (
.region [Q 2 (.mov (ci 0))]) (
.ret)) (
.skip))) (
.seq (
.region [V 6 0,
Q 7 (.nilck (.t 6)),
Q 8 (.faddr 1 (.t 7)),
Q 9 (.load false 1 (.t 8)),
Q 10 (.len .str (.t 9)),
V 2 10]) (
.ret)))
def a25 : AFunc := ⟨c25, [.tmp 2], false⟩
def c28 : ACode :=
.seq (
.region [M 3 (.box 74 11 (.t 1)),
Q 4 (.mov (.c (.one (dc (.sl [] true))))),
Q 5 (.mov (ci 0))]) (
.seq (
.seq (
.region [V 7 0,
E 8 (.callf 75 [(.t 7)]),
V 6 8]) (
.seq (
.region [V 9 6,
Q 10 (.bin .neq .scalar (.t 9) (ci 0))]) (
.cond (.t 10) (
.seq (
.region [V 11 6,
Q 4 (.mov (.c (.one (dc (.sl [] true))))),
V 5 11]) (
.ret)) (
.skip)))) (
.seq (
.draw [W 0 12 0 0,
D 1 13 (.nilck (.t 12)) 1,
D 2 14 (.faddr 0 (.t 13)) 3,
D 3 15 (.load false 1 (.t 14)) 7,
D 4 16 (.nilck (.t 15)) 15,
D 5 17 (.faddr 1 (.t 16)) 31,
D 6 18 (.load false 1 (.t 17)) 63,
D 8 20 (.load true 11 (.t 3)) 0,
⟨7, ⟨some 19, .e (.callf 66 [(.t 18)]), none, 127⟩⟩,
⟨9, ⟨some 21, .e (.callf 76 [(.t 19), (.t 20)]), none, 511⟩⟩,
D 10 22 (.extract 0 (.t 21)) 1023,
D 11 23 (.extract 1 (.t 21)) 1023,
W 12 4 22 4095,
W 13 5 23 8191]) (
.ret)))
def a28 : AFunc := ⟨c28, [.tmp 4, .tmp 5], false⟩
def c29 : ACode :=
.seq (
.region [Q 4 (.mov (ci 0)),
Q 5 (.mov (ci 0))]) (
.seq (
.seq (
.region [V 7 0,
E 8 (.callf 75 [(.t 7)]),
V 6 8]) (
.seq (
.region [V 9 6,
Q 10 (.bin .neq .scalar (.t 9) (ci 0))]) (
.cond (.t 10) (
.seq (
.region [V 11 6,
Q 4 (.mov (ci 0)),
V 5 11]) (
.ret)) (
.skip)))) (
.seq (
.region [V 12 0,
Q 13 (.nilck (.t 12)),
Q 14 (.faddr 0 (.t 13)),
Q 15 (.load false 1 (.t 14)),
Q 16 (.nilck (.t 15)),
Q 17 (.faddr 1 (.t 16)),
Q 18 (.load false 1 (.t 17)),
V 19 1,
E 20 (.callf 77 [(.t 18), (.t 19)]),
Q 21 (.extract 0 (.t 20)),
Q 22 (.extract 1 (.t 20)),
V 4 21,
V 5 22]) (
.ret)))
def a29 : AFunc := ⟨c29, [.tmp 4, .tmp 5], false⟩
def c30 : ACode :=
.seq (
.region [V 4 0,
E 5 (.callf 75 [(.t 4)]),
Q 6 (.bin .neq .scalar (.t 5) (ci 13))]) (
.cond (.t 6) (
.region [V 7 0,
Q 8 (.nilck (.t 7)),
Q 9 (.faddr 1 (.t 8)),
Q 10 (.load false 1 (.t 9)),
V 11 1,
E 12 (.callf 78 [(.t 10), (.t 11)])]) (
.skip))
def a30 : AFunc := ⟨c30, [], false⟩
def c31 : ACode :=
.seq (
.region [Q 4 (.mov (.c (.one (dc (.sl [] true)))))]) (
.seq (
.seq (
.region [V 5 0,
E 6 (.callf 35 [(.t 5)]),
Q 7 (.un .not (.t 6))]) (
.cond (.t 7) (
.seq (
.region [Q 4 (.mov (.c (.one (dc (.sl [] true)))))]) (
.ret)) (
.skip))) (
.seq (
.region [V 8 0,
Q 9 (.nilck (.t 8)),
Q 10 (.faddr 0 (.t 9)),
Q 11 (.load false 1 (.t 10)),
Q 12 (.nilck (.t 11)),
Q 13 (.faddr 0 (.t 12)),
Q 14 (.load false 1 (.t 13)),
V 15 1,
E 16 (.callf 23 [(.t 14), (.t 15)]),
V 4 16]) (
.ret)))
def a31 : AFunc := ⟨c31, [.tmp 4], false⟩
def c32 : ACode :=
.seq (
.region [Q 2 (.mov (ci 0))]) (
.seq (
.seq (
.region [V 4 0,
E 5 (.callf 75 [(.t 4)]),
V 3 5]) (
.seq (
.region [V 6 3,
Q 7 (.bin .neq .scalar (.t 6) (ci 0))]) (
.cond (.t 7) (
.seq (
.region [V 8 3,
V 2 8]) (
.ret)) (
.skip)))) (
.seq (
.region [V 9 0,
Q 10 (.nilck (.t 9)),
Q 11 (.faddr 0 (.t 10)),
Q 12 (.load false 1 (.t 11)),
Q 13 (.nilck (.t 12)),
Q 14 (.faddr 1 (.t 13)),
Q 15 (.load false 1 (.t 14)),
E 16 (.callf 79 [(.t 15)]),
V 2 16]) (
.ret)))
def a32 : AFunc := ⟨c32, [.tmp 2], false⟩
def c33 : ACode :=
.seq (
.region [Q 4 (.mov (ci 0))]) (
.seq (
.seq (
.region [V 6 0,
E 7 (.callf 75 [(.t 6)]),
Q 8 (.bin .eql .scalar (.t 7) (ci 13))]) (
.cond (.t 8) (
.seq (
.region [Q 4 (.mov (ci 13))]) (
.ret)) (
.skip))) (
.seq (
.region [V 9 0,
Q 10 (.nilck (.t 9)),
Q 11 (.faddr 1 (.t 10)),
Q 12 (.load false 1 (.t 11)),
V 13 1,
E 14 (.callf 80 [(.t 12), (.t 13)]),
V 5 14]) (
.seq (
.seq (
.region [V 15 5,
Q 16 (.bin .eql .scalar (.t 15) (ci 0))]) (
.cond (.t 16) (
.region [V 17 0,
Q 18 (.nilck (.t 17)),
Q 19 (.faddr 0 (.t 18)),
⟨none, .e (.store 1 (.t 19) (.c (.one (dc (.nilp))))), none, 0⟩]) (
.skip))) (
.seq (
.region [V 20 5,
V 4 20]) (
.ret)))))
def a33 : AFunc := ⟨c33, [.tmp 4], false⟩
def c34 : ACode :=
.seq (
.region [Q 2 (.mov (ci 0))]) (
.seq (
.seq (
.region [V 6 0,
E 7 (.callf 75 [(.t 6)])]) (
.block 0 (
.seq (
.region [Q 9 (.bin .eql .scalar (.t 7) (ci 13)),
V 8 9]) (
.cond (.t 8) (
.seq (
.region [Q 2 (.mov (ci 13))]) (
.ret)) (
.seq (
.region [Q 11 (.bin .eql .scalar (.t 7) (ci 0)),
V 10 11]) (
.cond (.t 10) (
.seq (
.region [Q 2 (.mov (ci 6))]) (
.ret)) (
.skip))))))) (
.seq (
.draw [W 0 13 0 0,
D 1 14 (.nilck (.t 13)) 1,
D 2 15 (.faddr 1 (.t 14)) 3,
D 3 16 (.load false 1 (.t 15)) 7,
W 4 17 0 0,
D 5 18 (.nilck (.t 17)) 16,
D 6 19 (.faddr 2 (.t 18)) 48,
D 7 20 (.load false 1 (.t 19)) 112,
⟨8, ⟨some 21, .e (.callf 81 [(.t 16), (.t 20)]), none, 255⟩⟩,
W 9 12 21 511,
D 10 22 (.extract 0 (.t 12)) 1023,
D 11 23 (.extract 1 (.t 12)) 1023,
W 12 3 22 2047,
W 13 4 23 8191]) (
.seq (
.seq (
.region [V 24 4,
Q 25 (.bin .neq .scalar (.t 24) (ci 0))]) (
.cond (.t 25) (
.seq (
.region [V 26 4,
V 2 26]) (
.ret)) (
.skip))) (
.seq (
.region [V 28 3,
E 29 (.callf 21 [(.t 28)]),
V 27 29,
Q 30 (.extract 0 (.t 27)),
Q 31 (.extract 1 (.t 27)),
V 5 30,
V 4 31]) (
.seq (
.seq (
.region [V 32 4,
Q 33 (.bin .neq .scalar (.t 32) (ci 0))]) (
.cond (.t 33) (
.seq (
.region [V 34 4,
V 2 34]) (
.ret)) (
.skip))) (
.seq (
.region [V 35 0,
V 36 5,
V 37 3,
Q 38 (.build [dc (.nilp), dc (.nilp)] [(0, 1, (.t 36)), (1, 1, (.t 37))]),
M 39 (.box 148 2 (.t 38)),
Q 40 (.nilck (.t 35)),
Q 41 (.faddr 0 (.t 40)),
S 1 41 39]) (
.seq (
.region [Q 2 (.mov (ci 0))]) (
.ret))))))))
def a34 : AFunc := ⟨c34, [.tmp 2], false⟩
def c35 : ACode :=
.seq (
.region [Q 2 (.mov (cb false))]) (
.seq (
.region [V 3 0,
E 4 (.callf 75 [(.t 3)]),
Q 5 (.bin .eql .scalar (.t 4) (ci 0)),
V 2 5]) (
.ret))
def a35 : AFunc := ⟨c35, [.tmp 2], false⟩
def c36 : ACode :=
.seq (
.region [Q 2 (.mov (ci 0))]) (
.seq (
.region [V 3 0,
E 4 (.callf 82 [(.t 3)]),
E 5 (.callf 11 [(.t 4)]),
V 2 5]) (
.ret))
def a36 : AFunc := ⟨c36, [.tmp 2], false⟩
def c37 : ACode :=
.seq (
.region [Q 2 (.mov (ci 0))]) (
.seq (
.region [V 3 0,
E 4 (.callf 82 [(.t 3)]),
E 5 (.callf 12 [(.t 4)]),
V 2 5]) (
.ret))
def a37 : AFunc := ⟨c37, [.tmp 2], false⟩
def c38 : ACode :=
.seq (
.region [Q 2 (.mov (ci 0))]) (
.seq (
.region [V 3 0,
E 4 (.callf 82 [(.t 3)]),
E 5 (.callf 13 [(.t 4)]),
V 2 5]) (
.ret))
def a38 : AFunc := ⟨c38, [.tmp 2], false⟩
def c39 : ACode :=
.seq (
.region [Q 2 (.mov (ci 0))]) (
.seq (
.seq (
.region [V 3 0,
E 4 (.callf 35 [(.t 3)]),
Q 5 (.un .not (.t 4))]) (
.cond (.t 5) (
.seq (
.region [Q 2 (.mov (ci 0))]) (
.ret)) (
.skip))) (
.seq (
.region [V 6 0,
Q 7 (.nilck (.t 6)),
Q 8 (.faddr 0 (.t 7)),
Q 9 (.load false 1 (.t 8)),
Q 10 (.nilck (.t 9)),
Q 11 (.faddr 0 (.t 10)),
Q 12 (.load false 1 (.t 11)),
E 13 (.callf 25 [(.t 12)]),
V 2 13]) (
.ret)))
def a39 : AFunc := ⟨c39, [.tmp 2], false⟩
def c40 : ACode :=
.seq (
.region [Q 2 (.mov (ci 0))]) (
.seq (
.seq (
.region [V 3 0,
Q 4 (.bin .eql .ptr (.t 3) (.c (.one (dc (.nilp)))))]) (
.cond (.t 4) (
.seq (
.region [Q 2 (.mov (ci 0))]) (
.ret)) (
.skip))) (
.seq (
.region [V 5 0,
Q 6 (.nilck (.t 5)),
Q 7 (.faddr 1 (.t 6)),
Q 8 (.load false 1 (.t 7)),
E 9 (.callf 83 [(.t 8)]),
Q 10 (.len .sl (.t 9)),
V 2 10]) (
.ret)))
def a40 : AFunc := ⟨c40, [.tmp 2], false⟩
def c41 : ACode :=
.seq (
.region [Q 0 (.mov (cb false))]) (
.seq (
.region [E 22 (.callf 84 [(ci 300), (ci 100)]),
V 21 22,
Q 23 (.extract 0 (.t 21)),
Q 24 (.extract 1 (.t 21)),
V 1 23,
V 2 24]) (
.seq (
.region [E 26 (.callf 84 [(ci 0), (ci 10)]),
V 25 26,
Q 27 (.extract 0 (.t 25)),
Q 28 (.extract 1 (.t 25)),
V 3 27,
V 4 28]) (
.seq (
.region [E 30 (.callf 84 [(ci 20), (ci 20)]),
V 29 30,
Q 31 (.extract 0 (.t 29)),
Q 32 (.extract 1 (.t 29)),
V 5 31,
V 6 32]) (
.seq (
.seq (
.region [V 33 2,
Q 34 (.bin .neq .scalar (.t 33) (ci 0)),
V 35 34,
G 36 (.mov (.t 1)) 35 false,
G 37 (.bin .eql .ptr (.t 36) (.c (.one (dc (.nilp))))) 35 false,
Q 38 (.pick (.t 35) (cb true) (.t 37))]) (
.cond (.t 38) (
.seq (
.region [Q 0 (.mov (cb false))]) (
.ret)) (
.skip))) (
.seq (
.region [E 39 (.callf 62 [(cs [116]), (cb false)]),
M 40 (.bslice 116 8 1 zl11 [(0, 8, (.t 39))]),
Q 41 (.build zl6 [(0, 1, (ci 1)), (1, 1, (ci 5)), (2, 1, (.t 40))]),
E 42 (.callf 72 [(.t 41)]),
V 7 42]) (
.seq (
.region [V 43 1,
V 44 7,
V 45 7,
Q 46 (.sslice (.t 45) none (some (ci 5))),
Q 47 (.bin .add .scalar (.t 44) (.t 46)),
E 48 (.callf 31 [(.t 43), (.t 47)]),
V 8 48]) (
.seq (
.region [V 49 1,
E 50 (.callf 39 [(.t 49)]),
V 9 50]) (
.seq (
.region [V 51 1,
E 52 (.callf 34 [(.t 51)]),
V 10 52]) (
.seq (
.region [V 53 1,
E 54 (.callf 33 [(.t 53), (.c (.one (dc (.sl [] true))))]),
V 11 54]) (
.seq (
.region [V 55 1,
V 56 7,
E 57 (.callf 31 [(.t 55), (.t 56)]),
V 12 57]) (
.seq (
.region [V 59 1,
Q 60 (.build zl10 [(0, 1, (ci 1)), (1, 1, (cs [116])), (3, 1, (ci 5))]),
E 61 (.callf 28 [(.t 59), (.t 60)]),
V 58 61,
Q 62 (.extract 0 (.t 58)),
Q 63 (.extract 1 (.t 58)),
V 13 62,
V 14 63]) (
.seq (
.region [V 64 1,
E 65 (.callf 34 [(.t 64)]),
V 15 65]) (
.seq (
.region [V 67 1,
Q 68 (.build zl10 [(0, 1, (ci 1)), (1, 1, (cs [116])), (3, 1, (ci 5))]),
E 69 (.callf 28 [(.t 67), (.t 68)]),
V 66 69,
Q 70 (.extract 0 (.t 66)),
Q 71 (.extract 1 (.t 66)),
V 16 70,
V 17 71]) (
.seq (
.region [V 73 1,
E 74 (.callf 29 [(.t 73), (ci 5)]),
V 72 74,
Q 75 (.extract 0 (.t 72)),
Q 76 (.extract 1 (.t 72)),
V 18 75,
V 19 76]) (
.seq (
.region [V 77 1,
E 78 (.callf 30 [(.t 77), (ci 0)])]) (
.seq (
.region [V 79 1,
E 80 (.callf 32 [(.t 79)]),
V 20 80]) (
.seq (
.region [V 81 4,
Q 82 (.bin .eql .scalar (.t 81) (ci 1)),
V 83 82,
G 84 (.mov (.t 6)) 83 true,
G 85 (.bin .eql .scalar (.t 84) (ci 1)) 83 true,
Q 86 (.pick (.t 83) (.t 85) (cb false)),
V 87 86,
G 88 (.mov (.t 8)) 87 true,
G 89 (.len .sl (.t 88)) 87 true,
G 90 (.bin .eql .scalar (.t 89) (ci 1)) 87 true,
Q 91 (.pick (.t 87) (.t 90) (cb false)),
V 92 91,
G 93 (.mov (.t 8)) 92 true,
G 94 (.iaddr 2 none (.t 93) (ci 0)) 92 true,
G 95 (.load true 2 (.t 94)) 92 true,
G 96 (.build zl7 [(0, 1, (ci 1))]) 92 true,
G 97 (.bin .eql (.agg [.int, .int]) (.t 95) (.t 96)) 92 true,
Q 98 (.pick (.t 92) (.t 97) (cb false)),
V 99 98,
G 100 (.mov (.t 9)) 99 true,
G 101 (.bin .eql .scalar (.t 100) (ci 5)) 99 true,
Q 102 (.pick (.t 99) (.t 101) (cb false)),
V 103 102,
G 104 (.mov (.t 10)) 103 true,
G 105 (.bin .eql .scalar (.t 104) (ci 6)) 103 true,
Q 106 (.pick (.t 103) (.t 105) (cb false)),
V 107 106,
G 108 (.mov (.t 11)) 107 true,
G 109 (.bin .eql .scalar (.t 108) (ci 0)) 107 true,
Q 110 (.pick (.t 107) (.t 109) (cb false)),
V 111 110,
G 112 (.mov (.t 12)) 111 true,
G 113 (.len .sl (.t 112)) 111 true,
G 114 (.bin .eql .scalar (.t 113) (ci 0)) 111 true,
Q 115 (.pick (.t 111) (.t 114) (cb false)),
V 116 115,
G 117 (.mov (.t 14)) 116 true,
G 118 (.bin .eql .scalar (.t 117) (ci 6)) 116 true,
Q 119 (.pick (.t 116) (.t 118) (cb false)),
V 120 119,
G 121 (.mov (.t 15)) 120 true,
G 122 (.bin .eql .scalar (.t 121) (ci 0)) 120 true,
Q 123 (.pick (.t 120) (.t 122) (cb false)),
V 124 123,
G 125 (.mov (.t 17)) 124 true,
G 126 (.bin .eql .scalar (.t 125) (ci 0)) 124 true,
Q 127 (.pick (.t 124) (.t 126) (cb false)),
V 128 127,
G 129 (.mov (.t 18)) 128 true,
G 130 (.bin .eql .scalar (.t 129) (ci 0)) 128 true,
Q 131 (.pick (.t 128) (.t 130) (cb false)),
V 132 131,
G 133 (.mov (.t 19)) 132 true,
G 134 (.bin .eql .scalar (.t 133) (ci 0)) 132 true,
Q 135 (.pick (.t 132) (.t 134) (cb false)),
V 136 135,
G 137 (.mov (.t 20)) 136 true,
G 138 (.bin .eql .scalar (.t 137) (ci 6)) 136 true,
Q 139 (.pick (.t 136) (.t 138) (cb false)),
V 140 139,
G 141 (.mov (.t 1)) 140 true,
⟨some 142, .e (.callf 35 [(.t 141)]), some (140, true), 0⟩,
Q 143 (.pick (.t 140) (.t 142) (cb false)),
V 144 143,
G 145 (.mov (.t 1)) 144 true,
⟨some 146, .e (.callf 36 [(.t 145)]), some (144, true), 0⟩,
G 147 (.bin .eql .scalar (.t 146) (ci 1)) 144 true,
Q 148 (.pick (.t 144) (.t 147) (cb false)),
V 149 148,
G 150 (.mov (.t 1)) 149 true,
⟨some 151, .e (.callf 37 [(.t 150)]), some (149, true), 0⟩,
G 152 (.bin .eql .scalar (.t 151) (ci 5)) 149 true,
Q 153 (.pick (.t 149) (.t 152) (cb false)),
V 154 153,
G 155 (.mov (.t 1)) 154 true,
⟨some 156, .e (.callf 38 [(.t 155)]), some (154, true), 0⟩,
G 157 (.bin .eql .scalar (.t 156) (ci 5)) 154 true,
Q 158 (.pick (.t 154) (.t 157) (cb false)),
V 159 158,
G 160 (.mov (.t 1)) 159 true,
⟨some 161, .e (.callf 39 [(.t 160)]), some (159, true), 0⟩,
G 162 (.bin .eql .scalar (.t 161) (ci 0)) 159 true,
Q 163 (.pick (.t 159) (.t 162) (cb false)),
V 164 163,
G 165 (.mov (.t 1)) 164 true,
⟨some 166, .e (.callf 40 [(.t 165)]), some (164, true), 0⟩,
G 167 (.bin .eql .scalar (.t 166) (ci 0)) 164 true,
Q 168 (.pick (.t 164) (.t 167) (cb false)),
V 0 168]) (
.ret))))))))))))))))))
def a41 : AFunc := ⟨c41, [.tmp 0], true⟩
def c42 : ACode :=
.seq (
.region [M 3 (.box 3 1 (.t 1)),
Q 4 (.mov (.c (.one (dc (.sl [] true)))))]) (
.seq (
.seq (
.region [V 9 0,
E 10 (.callf 85 [(.t 9)]),
Q 11 (.un .not (.t 10))]) (
.cond (.t 11) (
.seq (
.region [Q 4 (.mov (.c (.one (dc (.sl [] true)))))]) (
.ret)) (
.skip))) (
.seq (
.region [Q 5 (.mov (.c (.one (dc (.sl [] true)))))]) (
.seq (
.seq (
.region [V 12 0,
Q 13 (.mkfn (.func 87) 87 [] [(.t 3)]),
E 14 (.callf 86 [(.t 12), (.t 13)]),
Q 15 (.len .sl (.t 14)),
Q 16 (.mov (ci 0))]) (
.block 0 (
.loop (
.seq (
.region [Q 17 (.bin .lss .scalar (.t 16) (.t 15))]) (
.seq (
.cond (.t 17) (
.skip) (
.exit 0)) (
.seq (
.block 1 (
.seq (
.region [Q 18 (.iaddr 5 none (.t 14) (.t 16)),
Q 19 (.load true 5 (.t 18)),
M 7 (.alloc 105 5 zl2),
S 5 7 19]) (
.seq (
.region [V 20 5,
Q 21 (.len .sl (.t 20)),
V 8 21]) (
.seq (
.block 2 (
.loop (
.seq (
.seq (
.draw [W 0 22 8 0,
D 1 23 (.bin .gtr .scalar (.t 22) (ci 0)) 1,
W 2 24 23 3,
⟨3, ⟨some 25, .q (.mov (.t 5)), some (24, true), 7⟩⟩,
⟨4, ⟨some 26, .q (.mov (.t 8)), some (24, true), 7⟩⟩,
⟨5, ⟨some 27, .q (.bin .sub .scalar (.t 26) (ci 1)), some (24, true), 23⟩⟩,
⟨6, ⟨some 28, .q (.iaddr 3 none (.t 25) (.t 27)), some (24, true), 63⟩⟩,
⟨7, ⟨some 29, .q (.faddr 0 (.t 28)), some (24, true), 127⟩⟩,
⟨8, ⟨some 30, .q (.faddr 0 (.t 29)), some (24, true), 255⟩⟩,
⟨9, ⟨some 31, .q (.load false 1 (.t 30)), some (24, true), 511⟩⟩,
⟨10, ⟨some 32, .q (.faddr 2 (.t 7)), some (24, true), 7⟩⟩,
⟨11, ⟨some 33, .q (.faddr 0 (.t 32)), some (24, true), 1031⟩⟩,
⟨12, ⟨some 34, .q (.faddr 0 (.t 33)), some (24, true), 3079⟩⟩,
⟨13, ⟨some 35, .q (.load false 1 (.t 34)), some (24, true), 7175⟩⟩,
⟨14, ⟨some 36, .q (.bin .gtr .scalar (.t 31) (.t 35)), some (24, true), 16383⟩⟩,
D 15 37 (.pick (.t 24) (.t 36) (cb false)) 32767]) (
.cond (.t 37) (
.skip) (
.exit 2))) (
.block 3 (
.region [V 38 8,
Q 39 (.bin .sub .scalar (.t 38) (ci 1)),
V 8 39]))))) (
.draw [W 0 40 5 0,
W 1 41 8 0,
W 2 42 8 0,
D 3 43 (.slice 3 (.t 40) none (some (.t 41)) (some (.t 42))) 7,
D 4 44 (.faddr 2 (.t 7)) 0,
D 5 45 (.load true 3 (.t 44)) 16,
⟨6, ⟨some 46, .m (.bslice 98 3 1 zl6 [(0, 3, (.t 45))]), none, 48⟩⟩,
W 7 47 5 0,
W 8 48 8 0,
D 9 49 (.slice 3 (.t 47) (some (.t 48)) none none) 384,
⟨10, ⟨some 50, .e (.append 98 3 40 (.t 46) (.t 49)), none, 1008⟩⟩,
⟨11, ⟨some 51, .e (.append 98 3 40 (.t 43) (.t 50)), none, 2047⟩⟩,
W 12 5 51 4095]))))) (
.region [Q 52 (.bin .add .scalar (.t 16) (ci 1)),
V 16 52]))))))) (
.seq (
.region [V 53 5,
V 4 53]) (
.ret)))))
def a42 : AFunc := ⟨c42, [.tmp 4], true⟩
def c43 : ACode :=
.seq (
.region [M 2 (.box 36 3 (.t 0)),
M 3 (.box 98 3 (.t 1)),
M 4 (.alloc 98 3 zl6)]) (
.seq (
.region [Q 6 (.load true 3 (.t 2)),
Q 7 (.faddr 2 (.t 3)),
Q 8 (.load false 1 (.t 7)),
E 9 (.callf 89 [(.t 6), (.t 8)]),
V 5 9,
Q 10 (.extract 0 (.t 5)),
Q 11 (.extract 1 (.t 5)),
Q 12 (.faddr 2 (.t 3)),
S 1 12 10]) (
.seq (
.region [Q 13 (.load true 3 (.t 3)),
S 3 4 13]) (
.ret)))
def a43 : AFunc := ⟨c43, [.cell 4 true 3], true⟩
def c44 : ACode :=
.seq (
.region [Q 4 (.mov (ci 0))]) (
.seq (
.block 0 (
.seq (
.region [V 6 0,
Q 7 (.bin .eql .ptr (.t 6) (.c (.one (dc (.nilp))))),
V 5 7]) (
.cond (.t 5) (
.seq (
.region [Q 4 (.mov (ci 13))]) (
.ret)) (
.seq (
.region [V 9 1,
V 10 0,
Q 11 (.nilck (.t 10)),
Q 12 (.faddr 2 (.t 11)),
Q 13 (.load false 1 (.t 12)),
Q 14 (.bin .lss .scalar (.t 9) (.t 13)),
V 8 14]) (
.cond (.t 8) (
.seq (
.region [Q 4 (.mov (ci 15))]) (
.ret)) (
.seq (
.region [V 16 1,
V 17 0,
Q 18 (.nilck (.t 17)),
Q 19 (.faddr 1 (.t 18)),
Q 20 (.load false 1 (.t 19)),
Q 21 (.bin .gtr .scalar (.t 16) (.t 20)),
V 15 21]) (
.cond (.t 15) (
.seq (
.region [Q 4 (.mov (ci 16))]) (
.ret)) (
.skip)))))))) (
.seq (
.region [Q 4 (.mov (ci 0))]) (
.ret)))
def a44 : AFunc := ⟨c44, [.tmp 4], true⟩
def c45 : ACode :=
.seq (
.region [M 1 (.box 26 2 (.t 0)),
Q 2 (.mov (cb false))]) (
.seq (
.region [Q 3 (.faddr 0 (.t 1)),
Q 4 (.load false 1 (.t 3)),
Q 5 (.bin .geq .scalar (.t 4) (ci 0)),
V 6 5,
G 7 (.faddr 0 (.t 1)) 6 true,
G 8 (.load false 1 (.t 7)) 6 true,
G 9 (.faddr 1 (.t 1)) 6 true,
G 10 (.load false 1 (.t 9)) 6 true,
G 11 (.bin .lss .scalar (.t 8) (.t 10)) 6 true,
Q 12 (.pick (.t 6) (.t 11) (cb false)),
V 13 12,
G 14 (.faddr 1 (.t 1)) 13 true,
G 15 (.load false 1 (.t 14)) 13 true,
G 16 (.bin .leq .scalar (.t 15) (ci 1099511627776)) 13 true,
Q 17 (.pick (.t 13) (.t 16) (cb false)),
V 2 17]) (
.ret))
def a45 : AFunc := ⟨c45, [.tmp 2], true⟩
def c46 : ACode :=
.seq (
.region [M 2 (.alloc 36 3 zl29)]) (
.seq (
.draw [W 0 3 0 0,
D 1 4 (.nilck (.t 3)) 1,
D 2 5 (.faddr 0 (.t 4)) 3,
D 3 6 (.load false 1 (.t 5)) 7,
W 4 7 0 0,
D 5 8 (.nilck (.t 7)) 16,
D 6 9 (.faddr 0 (.t 8)) 48,
D 7 10 (.load false 1 (.t 9)) 112,
D 8 11 (.len .sl (.t 10)) 240,
D 9 12 (.bin .sub .scalar (.t 11) (ci 1)) 496,
D 10 13 (.iaddr 4 none (.t 6) (.t 12)) 1023,
D 11 14 (.faddr 1 (.t 13)) 2047,
D 12 15 (.load true 3 (.t 14)) 4095,
⟨13, ⟨none, .e (.store 3 (.t 2) (.t 15)), none, 8191⟩⟩]) (
.ret))
def a46 : AFunc := ⟨c46, [.cell 2 true 3], true⟩
def c47 : ACode :=
.seq (
.region [M 3 (.box 26 2 (.t 1)),
Q 4 (.mov (.c (.one (dc (.sl [] true)))))]) (
.seq (
.seq (
.region [V 10 0,
E 11 (.callf 85 [(.t 10)]),
Q 12 (.un .not (.t 11)),
V 13 12,
G 14 (.load true 2 (.t 3)) 13 false,
⟨some 15, .e (.callf 45 [(.t 14)]), some (13, false), 0⟩,
G 16 (.un .not (.t 15)) 13 false,
Q 17 (.pick (.t 13) (cb true) (.t 16))]) (
.cond (.t 17) (
.seq (
.region [Q 4 (.mov (.c (.one (dc (.sl [] true)))))]) (
.ret)) (
.skip))) (
.seq (
.region [M 5 (.alloc 39 1 [dc (.sl [] true)])]) (
.seq (
.region [Q 18 (.mkfn (.func 90) 90 [] [(.t 5)]),
V 6 18]) (
.seq (
.seq (
.region [Q 19 (.faddr 0 (.t 3)),
Q 20 (.load false 1 (.t 19)),
V 7 20,
Q 8 (.mov (ci 0))]) (
.block 0 (
.loop (
.seq (
.seq (
.region [V 21 7,
Q 22 (.faddr 1 (.t 3)),
Q 23 (.load false 1 (.t 22)),
Q 24 (.bin .lss .scalar (.t 21) (.t 23))]) (
.cond (.t 24) (
.skip) (
.exit 0))) (
.seq (
.block 1 (
.seq (
.region [V 26 0,
V 27 7,
Q 28 (.faddr 1 (.t 3)),
Q 29 (.load false 1 (.t 28)),
E 30 (.callf 92 [(.t 26), (.t 27), (.t 29)]),
V 8 30]) (
.seq (
.region [V 31 0,
V 32 7,
E 33 (.callf 42 [(.t 31), (.t 32)]),
E 34 (.callf 93 [(.t 33)]),
V 9 34]) (
.block 2 (
.seq (
.region [V 44 9,
Q 45 (.len .sl (.t 44)),
Q 46 (.bin .eql .scalar (.t 45) (ci 0)),
V 43 46]) (
.cond (.t 43) (
.skip) (
.seq (
.region [V 48 6,
V 49 7,
V 50 9,
E 51 (.callv (.t 48) [(.t 49), (.t 50)]),
V 47 51]) (
.cond (.t 47) (
.region [Q 52 (.load false 1 (.t 5)),
Q 53 (.load false 1 (.t 5)),
Q 54 (.len .sl (.t 53)),
Q 55 (.bin .sub .scalar (.t 54) (ci 1)),
V 56 8,
Q 57 (.iaddr 3 none (.t 52) (.t 55)),
Q 58 (.faddr 0 (.t 57)),
Q 59 (.faddr 1 (.t 58)),
S 1 59 56]) (
.region [Q 35 (.load false 1 (.t 5)),
V 36 7,
V 37 8,
Q 38 (.build zl7 [(0, 1, (.t 36)), (1, 1, (.t 37))]),
V 39 9,
Q 40 (.build zl6 [(0, 2, (.t 38)), (2, 1, (.t 39))]),
M 41 (.bslice 162 3 1 zl6 [(0, 3, (.t 40))]),
E 42 (.append 162 3 40 (.t 35) (.t 41)),
S 1 5 42]))))))))) (
.region [V 25 8,
V 7 25])))))) (
.seq (
.region [Q 60 (.load false 1 (.t 5)),
V 4 60]) (
.ret))))))
def a47 : AFunc := ⟨c47, [.tmp 4], true⟩
def c48 : ACode :=
.seq (
.region [Q 4 (.mov (ci 0))]) (
.seq (
.region [V 10 0,
E 11 (.callf 17 [(.t 10)]),
V 5 11]) (
.seq (
.seq (
.region [V 12 0,
Q 13 (.nilck (.t 12)),
Q 14 (.faddr 3 (.t 13)),
Q 15 (.load false 1 (.t 14)),
M 16 (.range false (.t 15))]) (
.block 0 (
.loop (
.seq (
.region [E 17 (.next false (.t 16)),
Q 18 (.extract 0 (.t 17))]) (
.seq (
.cond (.t 18) (
.skip) (
.exit 0)) (
.block 1 (
.seq (
.region [E 19 (.entry (.t 16)),
Q 20 (.extract 0 (.t 19)),
V 6 20]) (
.seq (
.region [V 21 0,
Q 22 (.nilck (.t 21)),
Q 23 (.faddr 3 (.t 22)),
Q 24 (.load false 1 (.t 23)),
V 25 6,
Q 26 (.lookup .str (.one (dc (.nilp))) false (.t 24) (.t 25)),
V 7 26]) (
.seq (
.region [V 27 7,
Q 28 (.nilck (.t 27)),
Q 29 (.faddr 1 (.t 28)),
Q 30 (.load false 1 (.t 29)),
E 31 (.callf 56 [(.t 30)]),
Q 32 (.len .sl (.t 31)),
Q 33 (.mov (ci 0))]) (
.block 2 (
.loop (
.seq (
.region [Q 34 (.bin .lss .scalar (.t 33) (.t 32))]) (
.seq (
.cond (.t 34) (
.skip) (
.exit 2)) (
.seq (
.block 3 (
.seq (
.region [Q 35 (.iaddr 1 none (.t 31) (.t 33)),
Q 36 (.load false 1 (.t 35)),
V 9 36]) (
.region [V 37 7,
V 38 9,
V 39 1,
V 40 7,
Q 41 (.nilck (.t 40)),
Q 42 (.faddr 1 (.t 41)),
Q 43 (.load false 1 (.t 42)),
V 44 9,
Q 45 (.lookup .str (.one (dc (.sl [] true))) false (.t 43) (.t 44)),
E 46 (.callv (.t 39) [(.t 45)]),
E 47 (.callf 54 [(.t 37), (.t 38), (.t 46)])]))) (
.region [Q 48 (.bin .add .scalar (.t 33) (ci 1)),
V 33 48]))))))))))))))) (
.seq (
.region [V 49 5,
V 50 0,
E 51 (.callf 17 [(.t 50)]),
Q 52 (.bin .sub .scalar (.t 49) (.t 51)),
V 4 52]) (
.ret))))
def a48 : AFunc := ⟨c48, [.tmp 4], false⟩
def c49 : ACode :=
.seq (
.region [Q 3 (.mov (.c (.one (dc (.sl [] true)))))]) (
.seq (
.region [V 4 0,
Q 5 (.load false 1 (.t 1)),
E 6 (.callf 50 [(.t 4), (.t 5)]),
V 3 6]) (
.ret))
def a49 : AFunc := ⟨c49, [.tmp 3], false⟩
def c50 : ACode :=
.seq (
.region [M 3 (.box 3 1 (.t 1)),
Q 4 (.mov (.c (.one (dc (.sl [] true)))))]) (
.seq (
.seq (
.region [V 5 0,
E 6 (.callf 85 [(.t 5)]),
Q 7 (.un .not (.t 6))]) (
.cond (.t 7) (
.seq (
.region [V 8 0,
E 9 (.callf 86 [(.t 8), (.c (.one (.fn (.func 94) 94 [] [])))]),
V 4 9]) (
.ret)) (
.skip))) (
.seq (
.region [V 10 0,
Q 11 (.mkfn (.func 95) 95 [] [(.t 3)]),
E 12 (.callf 86 [(.t 10), (.t 11)]),
V 4 12]) (
.ret)))
def a50 : AFunc := ⟨c50, [.tmp 4], true⟩
def c51 : ACode :=
.seq (
.region [M 3 (.box 24 3 (.t 1)),
Q 4 (.mov (ci 0))]) (
.seq (
.block 0 (
.seq (
.region [Q 6 (.load true 3 (.t 3)),
E 7 (.callf 96 [(.t 6)]),
Q 8 (.un .not (.t 7)),
V 5 8]) (
.cond (.t 5) (
.seq (
.region [Q 4 (.mov (ci 7))]) (
.ret)) (
.seq (
.draw [D 0 10 (.faddr 0 (.t 3)) 0,
D 1 11 (.load false 1 (.t 10)) 1,
W 2 12 0 0,
D 3 13 (.nilck (.t 12)) 4,
D 4 14 (.faddr 0 (.t 13)) 12,
D 5 15 (.load false 1 (.t 14)) 28,
D 6 16 (.bin .leq .scalar (.t 11) (.t 15)) 63,
W 7 9 16 127]) (
.cond (.t 9) (
.seq (
.region [Q 4 (.mov (ci 5))]) (
.ret)) (
.seq (
.draw [D 0 18 (.faddr 0 (.t 3)) 0,
D 1 19 (.load false 1 (.t 18)) 1,
W 2 20 0 0,
D 3 21 (.nilck (.t 20)) 4,
D 4 22 (.faddr 0 (.t 21)) 12,
D 5 23 (.load false 1 (.t 22)) 28,
D 6 24 (.bin .add .scalar (.t 23) (ci 1)) 60,
D 7 25 (.bin .gtr .scalar (.t 19) (.t 24)) 127,
W 8 17 25 255]) (
.cond (.t 17) (
.seq (
.region [Q 4 (.mov (ci 12))]) (
.ret)) (
.seq (
.draw [D 0 27 (.faddr 1 (.t 3)) 0,
D 1 28 (.load false 1 (.t 27)) 1,
W 2 29 0 0,
D 3 30 (.nilck (.t 29)) 4,
D 4 31 (.faddr 1 (.t 30)) 12,
D 5 32 (.load false 1 (.t 31)) 28,
D 6 33 (.bin .leq .scalar (.t 28) (.t 32)) 63,
W 7 26 33 127]) (
.cond (.t 26) (
.seq (
.region [Q 4 (.mov (ci 1))]) (
.ret)) (
.skip)))))))))) (
.seq (
.region [Q 4 (.mov (ci 0))]) (
.ret)))
def a51 : AFunc := ⟨c51, [.tmp 4], true⟩
def c52 : ACode :=
.seq (
.region [M 3 (.box 116 8 (.t 1)),
Q 4 (.mov (ci 0))]) (
.seq (
.seq (
.region [Q 11 (.faddr 0 (.t 3)),
Q 12 (.load false 1 (.t 11)),
Q 13 (.bin .eql .scalar (.t 12) (ci 3))]) (
.cond (.t 13) (
.seq (
.region [V 14 0,
Q 15 (.faddr 5 (.t 3)),
Q 16 (.load true 3 (.t 15)),
E 17 (.callf 97 [(.t 14), (.t 16)]),
V 4 17]) (
.ret)) (
.skip))) (
.seq (
.draw [W 0 18 0 0,
D 1 19 (.nilck (.t 18)) 1,
D 2 20 (.faddr 0 (.t 19)) 3,
D 3 21 (.load false 1 (.t 20)) 7,
D 4 22 (.nilck (.t 21)) 15,
D 5 23 (.faddr 3 (.t 22)) 31,
D 6 24 (.load false 1 (.t 23)) 63,
D 7 25 (.faddr 1 (.t 3)) 0,
D 8 26 (.load false 1 (.t 25)) 128,
D 9 27 (.lookup .str (.one (dc (.nilp))) false (.t 24) (.t 26)) 511,
W 10 5 27 1023]) (
.seq (
.seq (
.region [V 28 5,
Q 29 (.bin .eql .ptr (.t 28) (.c (.one (dc (.nilp)))))]) (
.cond (.t 29) (
.seq (
.region [Q 4 (.mov (ci 18))]) (
.ret)) (
.skip))) (
.seq (
.draw [W 0 31 5 0,
D 2 33 (.load true 8 (.t 3)) 0,
⟨1, ⟨some 32, .e (.callf 46 [(.t 31)]), none, 1⟩⟩,
⟨3, ⟨some 34, .e (.callf 98 [(.t 32), (.t 33)]), none, 7⟩⟩,
W 4 30 34 15,
D 5 35 (.extract 0 (.t 30)) 31,
D 6 36 (.extract 1 (.t 30)) 31,
W 7 6 35 63,
W 8 7 36 255]) (
.seq (
.seq (
.region [V 37 7,
Q 38 (.bin .neq .scalar (.t 37) (ci 0))]) (
.cond (.t 38) (
.seq (
.region [V 39 7,
V 4 39]) (
.ret)) (
.skip))) (
.seq (
.region [Q 40 (.faddr 1 (.t 3)),
Q 41 (.load false 1 (.t 40)),
V 42 6,
Q 43 (.build [dc (.str []), dc (.str [])] [(0, 1, (.t 41)), (1, 1, (.t 42))]),
M 8 (.alloc 118 2 [dc (.str []), dc (.str [])]),
S 2 8 43]) (
.seq (
.draw [W 0 45 0 0,
D 1 46 (.nilck (.t 45)) 1,
D 2 47 (.faddr 2 (.t 46)) 3,
D 3 48 (.load false 1 (.t 47)) 7,
D 4 49 (.load true 2 (.t 8)) 0,
D 5 50 (.lookup (.strs 2) (.one (dc (.sl [] true))) true (.t 48) (.t 49)) 31,
W 6 44 50 63,
D 7 51 (.extract 0 (.t 44)) 127,
D 8 52 (.extract 1 (.t 44)) 127,
W 9 9 51 255,
W 10 10 52 1023]) (
.seq (
.seq (
.region [V 53 10,
Q 54 (.un .not (.t 53))]) (
.cond (.t 54) (
.region [V 55 5,
Q 56 (.nilck (.t 55)),
Q 57 (.faddr 1 (.t 56)),
Q 58 (.load false 1 (.t 57)),
V 59 6,
Q 60 (.lookup .str (.one (dc (.sl [] true))) false (.t 58) (.t 59)),
E 61 (.callf 42 [(.t 60), (ci 1099511627775)]),
V 9 61]) (
.skip))) (
.seq (
.seq (
.region [Q 62 (.faddr 0 (.t 3)),
Q 63 (.load false 1 (.t 62)),
Q 64 (.bin .eql .scalar (.t 63) (ci 1))]) (
.cond (.t 64) (
.draw [W 0 65 0 0,
D 1 66 (.nilck (.t 65)) 1,
D 2 67 (.faddr 2 (.t 66)) 3,
D 3 68 (.load false 1 (.t 67)) 7,
D 4 69 (.load true 2 (.t 8)) 0,
W 5 70 9 0,
D 6 71 (.faddr 3 (.t 3)) 0,
D 7 72 (.load true 2 (.t 71)) 64,
D 8 73 (.faddr 2 (.t 3)) 0,
D 9 74 (.load false 1 (.t 73)) 256,
⟨10, ⟨some 75, .e (.callf 99 [(.t 70), (.t 72), (.t 74)]), none, 992⟩⟩,
⟨11, ⟨none, .e (.mapup (.strs 2) (.t 68) (.t 69) (.t 75)), none, 2047⟩⟩]) (
.draw [W 0 76 0 0,
D 1 77 (.nilck (.t 76)) 1,
D 2 78 (.faddr 2 (.t 77)) 3,
D 3 79 (.load false 1 (.t 78)) 7,
D 4 80 (.load true 2 (.t 8)) 0,
W 5 81 9 0,
D 6 82 (.faddr 3 (.t 3)) 0,
D 7 83 (.load true 2 (.t 82)) 64,
⟨8, ⟨some 84, .e (.callf 100 [(.t 81), (.t 83)]), none, 224⟩⟩,
⟨9, ⟨none, .e (.mapup (.strs 2) (.t 79) (.t 80) (.t 84)), none, 511⟩⟩]))) (
.seq (
.region [Q 4 (.mov (ci 0))]) (
.ret)))))))))))
def a52 : AFunc := ⟨c52, [.tmp 4], false⟩
def c53 : ACode :=
.seq (
.region [M 4 (.box 3 1 (.t 1)),
Q 6 (.mov (.c (.one (dc (.sl [] true))))),
Q 7 (.mov (ci 0))]) (
.seq (
.seq (
.draw [W 0 16 0 0,
⟨1, ⟨some 17, .e (.callf 85 [(.t 16)]), none, 1⟩⟩,
D 2 18 (.un .not (.t 17)) 3,
W 3 19 18 7,
⟨4, ⟨some 20, .q (.mov (.t 2)), some (19, false), 15⟩⟩,
⟨5, ⟨some 21, .e (.callf 101 [(.t 20)]), some (19, false), 31⟩⟩,
⟨6, ⟨some 22, .q (.un .not (.t 21)), some (19, false), 63⟩⟩,
D 7 23 (.pick (.t 19) (cb true) (.t 22)) 127,
W 8 24 23 255,
⟨9, ⟨some 25, .q (.load false 1 (.t 4)), some (24, false), 511⟩⟩,
⟨10, ⟨some 26, .q (.mov (.t 0)), some (24, false), 511⟩⟩,
⟨11, ⟨some 27, .e (.callf 102 [(.t 26)]), some (24, false), 1535⟩⟩,
⟨12, ⟨some 28, .q (.bin .lss .scalar (.t 25) (.t 27)), some (24, false), 4095⟩⟩,
D 13 29 (.pick (.t 24) (cb true) (.t 28)) 8191,
W 14 30 29 16383,
⟨15, ⟨some 31, .q (.load false 1 (.t 4)), some (30, false), 32767⟩⟩,
⟨16, ⟨some 32, .q (.bin .geq .scalar (.t 31) (ci 1099511627776)), some (30, false), 65535⟩⟩,
D 17 33 (.pick (.t 30) (cb true) (.t 32)) 131071]) (
.cond (.t 33) (
.seq (
.region [Q 6 (.mov (.c (.one (dc (.sl [] true))))),
Q 7 (.mov (ci 1))]) (
.ret)) (
.skip))) (
.seq (
.region [V 35 0,
E 36 (.callf 42 [(.t 35), (ci 1099511627775)]),
V 37 2,
E 38 (.callf 103 [(.t 36), (.t 37)]),
V 34 38,
Q 39 (.extract 0 (.t 34)),
Q 40 (.extract 1 (.t 34)),
M 8 (.alloc 30 1 [dc (.sl [] true)]),
S 1 8 39,
V 9 40]) (
.seq (
.region [Q 41 (.mkfn (.func 104) 104 [] [(.t 8)]),
M 10 (.alloc 158 1 [dc (.nilf)]),
S 1 10 41]) (
.seq (
.region [V 42 0,
Q 43 (.mkfn (.func 107) 107 [] [(.t 10), (.t 4)]),
E 44 (.callf 86 [(.t 42), (.t 43)]),
V 11 44]) (
.seq (
.seq (
.region [V 45 11,
Q 46 (.len .sl (.t 45)),
Q 47 (.mov (ci 0))]) (
.block 0 (
.loop (
.seq (
.region [Q 48 (.bin .lss .scalar (.t 47) (.t 46))]) (
.seq (
.cond (.t 48) (
.skip) (
.exit 0)) (
.seq (
.block 1 (
.seq (
.region [V 49 47,
Q 50 (.iaddr 5 none (.t 45) (.t 47)),
Q 51 (.load true 5 (.t 50)),
M 13 (.alloc 105 5 zl2),
V 12 49,
S 5 13 51]) (
.seq (
.region [Q 52 (.load false 1 (.t 10)),
Q 53 (.load true 5 (.t 13)),
E 54 (.callv (.t 52) [(.t 53)])]) (
.cond (.t 54) (
.region [V 55 11,
V 56 12,
Q 57 (.load false 1 (.t 4)),
Q 58 (.iaddr 5 none (.t 55) (.t 56)),
Q 59 (.faddr 0 (.t 58)),
Q 60 (.faddr 1 (.t 59)),
S 1 60 57]) (
.skip))))) (
.region [Q 61 (.bin .add .scalar (.t 47) (ci 1)),
V 47 61]))))))) (
.seq (
.seq (
.region [V 62 9,
Q 63 (.len .sl (.t 62)),
Q 64 (.mov (ci 0))]) (
.block 2 (
.loop (
.seq (
.region [Q 65 (.bin .lss .scalar (.t 64) (.t 63))]) (
.seq (
.cond (.t 65) (
.skip) (
.exit 2)) (
.seq (
.block 3 (
.seq (
.region [Q 66 (.iaddr 3 none (.t 62) (.t 64)),
Q 67 (.load true 3 (.t 66)),
M 15 (.alloc 98 3 zl6),
S 3 15 67]) (
.region [V 68 11,
Q 69 (.load false 1 (.t 4)),
Q 70 (.build zl7 [(0, 1, (.t 69)), (1, 1, (ci 1099511627776))]),
Q 71 (.load true 3 (.t 15)),
Q 72 (.build zl2 [(0, 2, (.t 70)), (2, 3, (.t 71))]),
M 73 (.bslice 105 5 1 zl2 [(0, 5, (.t 72))]),
E 74 (.append 105 5 56 (.t 68) (.t 73)),
V 11 74]))) (
.region [Q 75 (.bin .add .scalar (.t 64) (ci 1)),
V 64 75]))))))) (
.seq (
.region [V 76 11,
E 77 (.callf 108 [(.t 76)])]) (
.seq (
.region [V 78 11,
V 6 78,
Q 7 (.mov (ci 0))]) (
.ret)))))))))
def a53 : AFunc := ⟨c53, [.tmp 6, .tmp 7], true⟩
def c54 : ACode :=
.seq (
.seq (
.region [V 6 2,
Q 7 (.len .sl (.t 6)),
Q 8 (.bin .eql .scalar (.t 7) (ci 0))]) (
.cond (.t 8) (
.seq (
.region [V 9 0,
Q 10 (.nilck (.t 9)),
Q 11 (.faddr 1 (.t 10)),
Q 12 (.load false 1 (.t 11)),
V 13 1,
⟨none, .e (.del .str (.t 12) (.t 13)), none, 0⟩]) (
.ret)) (
.skip))) (
.region [V 14 0,
Q 15 (.nilck (.t 14)),
Q 16 (.faddr 1 (.t 15)),
Q 17 (.load false 1 (.t 16)),
V 18 1,
V 19 2,
⟨none, .e (.mapup .str (.t 17) (.t 18) (.t 19)), none, 0⟩])
def a54 : AFunc := ⟨c54, [], false⟩
def c55 : ACode :=
.seq (
.region [Q 2 (.mov (.c (.one (dc (.sl [] true)))))]) (
.seq (
.region [Q 3 (.mov (.c (.one (dc (.sl [] true)))))]) (
.seq (
.seq (
.region [V 6 0,
M 7 (.range false (.t 6))]) (
.block 0 (
.loop (
.seq (
.region [E 8 (.next false (.t 7)),
Q 9 (.extract 0 (.t 8))]) (
.seq (
.cond (.t 9) (
.skip) (
.exit 0)) (
.block 1 (
.seq (
.region [E 10 (.entry (.t 7)),
Q 11 (.extract 0 (.t 10)),
V 4 11]) (
.seq (
.region [V 12 3,
Q 13 (.len .sl (.t 12)),
V 5 13]) (
.seq (
.block 2 (
.loop (
.seq (
.seq (
.region [V 14 5,
Q 15 (.bin .gtr .scalar (.t 14) (ci 0)),
V 16 15,
G 17 (.mov (.t 3)) 16 true,
G 18 (.mov (.t 5)) 16 true,
G 19 (.bin .sub .scalar (.t 18) (ci 1)) 16 true,
G 20 (.iaddr 1 none (.t 17) (.t 19)) 16 true,
G 21 (.load false 1 (.t 20)) 16 true,
G 22 (.mov (.t 4)) 16 true,
G 23 (.bin .gtr .scalar (.t 21) (.t 22)) 16 true,
Q 24 (.pick (.t 16) (.t 23) (cb false))]) (
.cond (.t 24) (
.skip) (
.exit 2))) (
.block 3 (
.region [V 25 5,
Q 26 (.bin .sub .scalar (.t 25) (ci 1)),
V 5 26]))))) (
.draw [W 0 27 3 0,
W 1 28 5 0,
W 2 29 5 0,
D 3 30 (.slice 1 (.t 27) none (some (.t 28)) (some (.t 29))) 7,
W 4 31 4 0,
⟨5, ⟨some 32, .m (.bslice 9 1 1 [dc (.str [])] [(0, 1, (.t 31))]), none, 16⟩⟩,
W 6 33 3 0,
W 7 34 5 0,
D 8 35 (.slice 1 (.t 33) (some (.t 34)) none none) 192,
⟨9, ⟨some 36, .e (.append 9 1 16 (.t 32) (.t 35)), none, 496⟩⟩,
⟨10, ⟨some 37, .e (.append 9 1 16 (.t 30) (.t 36)), none, 1023⟩⟩,
W 11 3 37 2047])))))))))) (
.seq (
.region [V 38 3,
V 2 38]) (
.ret))))
def a55 : AFunc := ⟨c55, [.tmp 2], true⟩
def c56 : ACode :=
.seq (
.region [Q 2 (.mov (.c (.one (dc (.sl [] true)))))]) (
.seq (
.region [Q 3 (.mov (.c (.one (dc (.sl [] true)))))]) (
.seq (
.seq (
.region [V 6 0,
M 7 (.range false (.t 6))]) (
.block 0 (
.loop (
.seq (
.region [E 8 (.next false (.t 7)),
Q 9 (.extract 0 (.t 8))]) (
.seq (
.cond (.t 9) (
.skip) (
.exit 0)) (
.block 1 (
.seq (
.region [E 10 (.entry (.t 7)),
Q 11 (.extract 0 (.t 10)),
V 4 11]) (
.seq (
.region [V 12 3,
Q 13 (.len .sl (.t 12)),
V 5 13]) (
.seq (
.block 2 (
.loop (
.seq (
.seq (
.region [V 14 5,
Q 15 (.bin .gtr .scalar (.t 14) (ci 0)),
V 16 15,
G 17 (.mov (.t 3)) 16 true,
G 18 (.mov (.t 5)) 16 true,
G 19 (.bin .sub .scalar (.t 18) (ci 1)) 16 true,
G 20 (.iaddr 1 none (.t 17) (.t 19)) 16 true,
G 21 (.load false 1 (.t 20)) 16 true,
G 22 (.mov (.t 4)) 16 true,
G 23 (.bin .gtr .scalar (.t 21) (.t 22)) 16 true,
Q 24 (.pick (.t 16) (.t 23) (cb false))]) (
.cond (.t 24) (
.skip) (
.exit 2))) (
.block 3 (
.region [V 25 5,
Q 26 (.bin .sub .scalar (.t 25) (ci 1)),
V 5 26]))))) (
.draw [W 0 27 3 0,
W 1 28 5 0,
W 2 29 5 0,
D 3 30 (.slice 1 (.t 27) none (some (.t 28)) (some (.t 29))) 7,
W 4 31 4 0,
⟨5, ⟨some 32, .m (.bslice 9 1 1 [dc (.str [])] [(0, 1, (.t 31))]), none, 16⟩⟩,
W 6 33 3 0,
W 7 34 5 0,
D 8 35 (.slice 1 (.t 33) (some (.t 34)) none none) 192,
⟨9, ⟨some 36, .e (.append 9 1 16 (.t 32) (.t 35)), none, 496⟩⟩,
⟨10, ⟨some 37, .e (.append 9 1 16 (.t 30) (.t 36)), none, 1023⟩⟩,
W 11 3 37 2047])))))))))) (
.seq (
.region [V 38 3,
V 2 38]) (
.ret))))
def a56 : AFunc := ⟨c56, [.tmp 2], true⟩
def c58 : ACode :=
.seq (
.region [Q 2 (.mov (cs []))]) (
.seq (
.region [Q 3 (.mov (cs []))]) (
.seq (
.seq (
.region [V 6 0,
Q 7 (.len .sl (.t 6)),
Q 8 (.mov (ci 0))]) (
.block 0 (
.loop (
.seq (
.region [Q 9 (.bin .lss .scalar (.t 8) (.t 7))]) (
.seq (
.cond (.t 9) (
.skip) (
.exit 0)) (
.seq (
.block 1 (
.seq (
.region [Q 10 (.iaddr 1 none (.t 6) (.t 8)),
Q 11 (.load false 1 (.t 10)),
V 5 11]) (
.region [V 12 3,
V 13 5,
Q 14 (.conv (.int .u64) (.t 13)),
E 15 (.callf 110 [(.t 14)]),
Q 16 (.bin .add .scalar (.t 12) (.t 15)),
V 3 16]))) (
.region [Q 17 (.bin .add .scalar (.t 8) (ci 1)),
V 8 17]))))))) (
.seq (
.region [V 18 3,
V 2 18]) (
.ret))))
def a58 : AFunc := ⟨c58, [.tmp 2], true⟩
def c59 : ACode :=
.seq (
.region [Q 2 (.mov (cs []))]) (
.seq (
.region [V 10 0,
Q 11 (.nilck (.t 10)),
Q 12 (.faddr 0 (.t 11)),
Q 13 (.load false 1 (.t 12)),
Q 14 (.len .sl (.t 13)),
M 15 (.bslice 3 1 1 [dc (.int .i64 0)] [(0, 1, (.t 14))]),
E 16 (.callf 58 [(.t 15)]),
V 3 16]) (
.seq (
.seq (
.region [V 17 0,
Q 18 (.nilck (.t 17)),
Q 19 (.faddr 0 (.t 18)),
Q 20 (.load false 1 (.t 19)),
Q 21 (.len .sl (.t 20)),
Q 22 (.mov (ci 0))]) (
.block 0 (
.loop (
.seq (
.region [Q 23 (.bin .lss .scalar (.t 22) (.t 21))]) (
.seq (
.cond (.t 23) (
.skip) (
.exit 0)) (
.seq (
.block 1 (
.seq (
.region [Q 24 (.iaddr 4 none (.t 20) (.t 22)),
Q 25 (.load true 4 (.t 24)),
M 5 (.alloc 102 4 zl12),
S 4 5 25]) (
.draw [W 0 26 3 0,
D 1 27 (.faddr 0 (.t 5)) 0,
D 2 28 (.load false 1 (.t 27)) 2,
⟨3, ⟨some 29, .m (.bslice 3 1 1 [dc (.int .i64 0)] [(0, 1, (.t 28))]), none, 6⟩⟩,
D 5 31 (.faddr 1 (.t 5)) 0,
D 6 32 (.load true 3 (.t 31)) 32,
⟨4, ⟨some 30, .e (.callf 58 [(.t 29)]), none, 14⟩⟩,
⟨7, ⟨some 33, .e (.callf 112 [(.t 32)]), none, 126⟩⟩,
⟨8, ⟨some 34, .e (.callf 111 [(.t 33)]), none, 254⟩⟩,
D 9 35 (.bin .add .scalar (.t 30) (.t 34)) 510,
D 10 36 (.bin .add .scalar (.t 26) (.t 35)) 1023,
W 11 3 36 2047]))) (
.region [Q 37 (.bin .add .scalar (.t 22) (ci 1)),
V 22 37]))))))) (
.seq (
.region [V 38 3,
V 39 0,
Q 40 (.nilck (.t 39)),
Q 41 (.faddr 1 (.t 40)),
Q 42 (.load false 1 (.t 41)),
Q 43 (.len .map (.t 42)),
M 44 (.bslice 3 1 1 [dc (.int .i64 0)] [(0, 1, (.t 43))]),
E 45 (.callf 58 [(.t 44)]),
Q 46 (.bin .add .scalar (.t 38) (.t 45)),
V 3 46]) (
.seq (
.seq (
.region [V 47 0,
Q 48 (.nilck (.t 47)),
Q 49 (.faddr 1 (.t 48)),
Q 50 (.load false 1 (.t 49)),
E 51 (.callf 56 [(.t 50)]),
Q 52 (.len .sl (.t 51)),
Q 53 (.mov (ci 0))]) (
.block 2 (
.loop (
.seq (
.region [Q 54 (.bin .lss .scalar (.t 53) (.t 52))]) (
.seq (
.cond (.t 54) (
.skip) (
.exit 2)) (
.seq (
.block 3 (
.seq (
.region [Q 55 (.iaddr 1 none (.t 51) (.t 53)),
Q 56 (.load false 1 (.t 55)),
V 7 56]) (
.seq (
.draw [W 0 57 3 0,
W 1 58 7 0,
W 3 60 0 0,
D 4 61 (.nilck (.t 60)) 8,
D 5 62 (.faddr 1 (.t 61)) 24,
D 6 63 (.load false 1 (.t 62)) 56,
W 7 64 7 0,
D 8 65 (.lookup .str (.one (dc (.sl [] true))) false (.t 63) (.t 64)) 248,
D 9 66 (.len .sl (.t 65)) 504,
⟨10, ⟨some 67, .m (.bslice 3 1 1 [dc (.int .i64 0)] [(0, 1, (.t 66))]), none, 1016⟩⟩,
⟨2, ⟨some 59, .e (.callf 111 [(.t 58)]), none, 2⟩⟩,
⟨11, ⟨some 68, .e (.callf 58 [(.t 67)]), none, 2046⟩⟩,
D 12 69 (.bin .add .scalar (.t 59) (.t 68)) 4094,
D 13 70 (.bin .add .scalar (.t 57) (.t 69)) 8191,
W 14 3 70 16383]) (
.seq (
.region [V 71 0,
Q 72 (.nilck (.t 71)),
Q 73 (.faddr 1 (.t 72)),
Q 74 (.load false 1 (.t 73)),
V 75 7,
Q 76 (.lookup .str (.one (dc (.sl [] true))) false (.t 74) (.t 75)),
Q 77 (.len .sl (.t 76)),
Q 78 (.mov (ci 0))]) (
.block 4 (
.loop (
.seq (
.region [Q 79 (.bin .lss .scalar (.t 78) (.t 77))]) (
.seq (
.cond (.t 79) (
.skip) (
.exit 4)) (
.seq (
.block 5 (
.seq (
.region [Q 80 (.iaddr 5 none (.t 76) (.t 78)),
Q 81 (.load true 5 (.t 80)),
M 9 (.alloc 105 5 zl2),
S 5 9 81]) (
.draw [W 0 82 3 0,
D 1 83 (.faddr 0 (.t 9)) 0,
D 2 84 (.faddr 0 (.t 83)) 2,
D 3 85 (.load false 1 (.t 84)) 6,
D 4 86 (.faddr 0 (.t 9)) 0,
D 5 87 (.faddr 1 (.t 86)) 16,
D 6 88 (.load false 1 (.t 87)) 48,
D 7 89 (.faddr 2 (.t 9)) 0,
D 8 90 (.faddr 0 (.t 89)) 128,
D 9 91 (.faddr 0 (.t 90)) 384,
D 10 92 (.load false 1 (.t 91)) 896,
D 11 93 (.faddr 2 (.t 9)) 0,
D 12 94 (.faddr 0 (.t 93)) 2048,
D 13 95 (.faddr 1 (.t 94)) 6144,
D 14 96 (.load false 1 (.t 95)) 14336,
⟨15, ⟨some 97, .m (.bslice 3 1 4 zl3 [(0, 1, (.t 85)), (1, 1, (.t 88)), (2, 1, (.t 92)), (3, 1, (.t 96))]), none, 32766⟩⟩,
D 17 99 (.faddr 2 (.t 9)) 0,
D 18 100 (.faddr 2 (.t 99)) 131072,
D 19 101 (.load false 1 (.t 100)) 393216,
⟨16, ⟨some 98, .e (.callf 58 [(.t 97)]), none, 65534⟩⟩,
⟨20, ⟨some 102, .e (.callf 113 [(.t 101)]), none, 1048574⟩⟩,
D 21 103 (.bin .add .scalar (.t 98) (.t 102)) 2097150,
D 22 104 (.bin .add .scalar (.t 82) (.t 103)) 4194303,
W 23 3 104 8388607]))) (
.region [Q 105 (.bin .add .scalar (.t 78) (ci 1)),
V 78 105])))))))))) (
.region [Q 106 (.bin .add .scalar (.t 53) (ci 1)),
V 53 106]))))))) (
.seq (
.region [V 107 3,
V 2 107]) (
.ret))))))
def a59 : AFunc := ⟨c59, [.tmp 2], true⟩
def c60 : ACode :=
.seq (
.region [Q 2 (.mov (.c (.one (dc (.nilp)))))]) (
.seq (
.region [V 6 0,
Q 7 (.nilck (.t 6)),
Q 8 (.faddr 0 (.t 7)),
Q 9 (.load false 1 (.t 8)),
E 10 (.append 102 4 56 (.c (.one (dc (.sl [] true)))) (.t 9)),
M 11 (.mkmap .str),
Q 12 (.build [dc (.sl [] true), dc (.nilm)] [(0, 1, (.t 10)), (1, 1, (.t 11))]),
M 13 (.box 92 2 (.t 12)),
V 3 13]) (
.seq (
.seq (
.region [V 14 0,
Q 15 (.nilck (.t 14)),
Q 16 (.faddr 1 (.t 15)),
Q 17 (.load false 1 (.t 16)),
M 18 (.range false (.t 17))]) (
.block 0 (
.loop (
.seq (
.region [E 19 (.next false (.t 18)),
Q 20 (.extract 0 (.t 19))]) (
.seq (
.cond (.t 20) (
.skip) (
.exit 0)) (
.block 1 (
.seq (
.region [E 21 (.entry (.t 18)),
Q 22 (.extract 0 (.t 21)),
Q 23 (.extract 1 (.t 21)),
V 4 22,
V 5 23]) (
.region [V 24 3,
Q 25 (.nilck (.t 24)),
Q 26 (.faddr 1 (.t 25)),
Q 27 (.load false 1 (.t 26)),
V 28 4,
V 29 5,
⟨none, .e (.mapup .str (.t 27) (.t 28) (.t 29)), none, 0⟩])))))))) (
.seq (
.region [V 30 3,
V 2 30]) (
.ret))))
def a60 : AFunc := ⟨c60, [.tmp 2], false⟩
def c61 : ACode :=
.seq (
.region [Q 0 (.mov (.c (.one (dc (.nilp)))))]) (
.seq (
.region [M 1 (.mkmap .str),
Q 2 (.build zl4 [(1, 1, (ci (-1))), (3, 1, (.t 1))]),
M 3 (.box 96 4 (.t 2)),
V 0 3]) (
.ret))
def a61 : AFunc := ⟨c61, [.tmp 0], false⟩
def c62 : ACode :=
.seq (
.region [M 4 (.alloc 116 8 zl11)]) (
.seq (
.region [V 6 0,
Q 7 (.build zl26 [(0, 1, (cs [105, 100])), (1, 1, (ci 2)), (2, 1, (cb true))]),
Q 8 (.build zl26 [(0, 1, (cs [110, 97, 109, 101])), (1, 1, (ci 5))]),
M 9 (.bslice 185 3 2 zl25 [(0, 3, (.t 7)), (3, 3, (.t 8))]),
Q 10 (.build zl29 [(0, 1, (.t 6)), (1, 1, (.t 9)), (2, 1, (ci 1))]),
M 5 (.alloc 36 3 zl29),
S 3 5 10]) (
.seq (
.seq (
.region [V 11 1]) (
.cond (.t 11) (
.region [Q 12 (.faddr 1 (.t 5)),
Q 13 (.load false 1 (.t 12)),
Q 14 (.build zl26 [(0, 1, (cs [115, 105, 122, 101])), (1, 1, (ci 3))]),
M 15 (.bslice 185 3 1 zl26 [(0, 3, (.t 14))]),
E 16 (.append 185 3 32 (.t 13) (.t 15)),
Q 17 (.faddr 1 (.t 5)),
S 1 17 16]) (
.skip))) (
.seq (
.region [V 18 0,
Q 19 (.load true 3 (.t 5)),
Q 20 (.build zl11 [(0, 1, (ci 3)), (1, 1, (.t 18)), (5, 3, (.t 19))]),
S 8 4 20]) (
.ret))))
def a62 : AFunc := ⟨c62, [.cell 4 true 8], true⟩
def c64 : ACode :=
.seq (
.region [Q 2 (.mov (.c (.one (dc (.nilp))))),
Q 3 (.mov (ci 0))]) (
.seq (
.region [V 8 0,
E 9 (.callf 114 [(.t 8)]),
Q 10 (.build [dc (.nilp)] [(0, 1, (.t 9))]),
M 4 (.alloc 189 1 [dc (.nilp)]),
S 1 4 10]) (
.seq (
.region [E 11 (.callf 61 []),
M 5 (.alloc 29 1 [dc (.nilp)]),
S 1 5 11]) (
.seq (
.draw [D 0 12 (.load false 1 (.t 5)) 0,
D 1 13 (.load true 1 (.t 4)) 0,
⟨2, ⟨some 14, .e (.callf 115 [(.t 13)]), none, 2⟩⟩,
D 3 15 (.nilck (.t 12)) 7,
D 4 16 (.faddr 0 (.t 15)) 15,
⟨5, ⟨none, .e (.store 1 (.t 16) (.t 14)), none, 31⟩⟩]) (
.seq (
.draw [D 0 17 (.load false 1 (.t 5)) 0,
D 1 18 (.load true 1 (.t 4)) 0,
⟨2, ⟨some 19, .e (.callf 115 [(.t 18)]), none, 2⟩⟩,
D 3 20 (.bin .sub .scalar (.t 19) (ci 1)) 6,
D 4 21 (.nilck (.t 17)) 15,
D 5 22 (.faddr 1 (.t 21)) 31,
⟨6, ⟨none, .e (.store 1 (.t 22) (.t 20)), none, 63⟩⟩]) (
.seq (
.draw [D 0 23 (.load false 1 (.t 5)) 0,
D 1 24 (.load true 1 (.t 4)) 0,
⟨2, ⟨some 25, .e (.callf 115 [(.t 24)]), none, 2⟩⟩,
D 3 26 (.nilck (.t 23)) 7,
D 4 27 (.faddr 2 (.t 26)) 15,
⟨5, ⟨none, .e (.store 1 (.t 27) (.t 25)), none, 31⟩⟩]) (
.seq (
.draw [D 0 28 (.load false 1 (.t 5)) 0,
D 1 29 (.nilck (.t 28)) 1,
D 2 30 (.faddr 0 (.t 29)) 3,
D 3 31 (.load false 1 (.t 30)) 7,
D 4 32 (.bin .leq .scalar (.t 31) (ci 1099511627776)) 15,
W 5 33 32 31,
⟨6, ⟨some 34, .q (.load false 1 (.t 5)), some (33, true), 63⟩⟩,
⟨7, ⟨some 35, .q (.nilck (.t 34)), some (33, true), 127⟩⟩,
⟨8, ⟨some 36, .q (.faddr 1 (.t 35)), some (33, true), 255⟩⟩,
⟨9, ⟨some 37, .q (.load false 1 (.t 36)), some (33, true), 511⟩⟩,
⟨10, ⟨some 38, .q (.bin .lss .scalar (.t 37) (ci 1099511627776)), some (33, true), 1023⟩⟩,
D 11 39 (.pick (.t 33) (.t 38) (cb false)) 2047,
W 12 40 39 4095,
⟨13, ⟨some 41, .q (.load false 1 (.t 5)), some (40, true), 8191⟩⟩,
⟨14, ⟨some 42, .q (.nilck (.t 41)), some (40, true), 16383⟩⟩,
⟨15, ⟨some 43, .q (.faddr 2 (.t 42)), some (40, true), 32767⟩⟩,
⟨16, ⟨some 44, .q (.load false 1 (.t 43)), some (40, true), 65535⟩⟩,
⟨17, ⟨some 45, .q (.load false 1 (.t 5)), some (40, true), 8191⟩⟩,
⟨18, ⟨some 46, .q (.nilck (.t 45)), some (40, true), 139263⟩⟩,
⟨19, ⟨some 47, .q (.faddr 1 (.t 46)), some (40, true), 401407⟩⟩,
⟨20, ⟨some 48, .q (.load false 1 (.t 47)), some (40, true), 925695⟩⟩,
⟨21, ⟨some 49, .q (.mnmx true (ci 0) (.t 48)), some (40, true), 1974271⟩⟩,
⟨22, ⟨some 50, .q (.bin .leq .scalar (.t 44) (.t 49)), some (40, true), 4194303⟩⟩,
D 23 51 (.pick (.t 40) (.t 50) (cb false)) 8388607,
⟨24, ⟨some 6, .m (.alloc 4 1 [dc (.bool false)]), none, 0⟩⟩,
⟨25, ⟨none, .e (.store 1 (.t 6) (.t 51)), none, 33554431⟩⟩]) (
.seq (
.seq (
.region [Q 52 (.load true 1 (.t 4)),
Q 53 (.mkfn (.func 116) 116 [(.t 52)] [])]) (
.block 0 (
.rfunc (.t 53) [] (
.skip) (
.block 1 (
.seq (
.region [Q 54 (.load true 1 (.t 4)),
E 55 (.callf 117 [(.t 54)]),
V 7 55]) (
.seq (
.seq (
.region [V 56 7,
Q 57 (.load false 1 (.t 5)),
Q 58 (.nilck (.t 57)),
Q 59 (.faddr 1 (.t 58)),
Q 60 (.load false 1 (.t 59)),
E 61 (.callf 118 [(.t 56), (.t 60)]),
Q 62 (.un .not (.t 61))]) (
.cond (.t 62) (
.seq (
.region [⟨none, .e (.store 1 (.t 6) (cb false)), none, 0⟩]) (
.exit 0)) (
.skip))) (
.draw [D 0 63 (.load false 1 (.t 5)) 0,
D 1 64 (.nilck (.t 63)) 1,
D 2 65 (.faddr 3 (.t 64)) 3,
D 3 66 (.load false 1 (.t 65)) 7,
W 4 67 7 0,
W 7 70 7 0,
⟨5, ⟨some 68, .e (.callf 46 [(.t 67)]), none, 16⟩⟩,
D 6 69 (.field false 0 1 (.t 68)) 48,
⟨8, ⟨none, .e (.mapup .str (.t 66) (.t 69) (.t 70)), none, 255⟩⟩]))))))) (
.seq (
.seq (
.region [Q 71 (.load false 1 (.t 6)),
Q 72 (.un .not (.t 71)),
V 73 72,
G 74 (.faddr 0 (.t 4)) 73 false,
G 75 (.load false 1 (.t 74)) 73 false,
⟨some 76, .e (.callf 119 [(.t 75)]), some (73, false), 0⟩,
G 77 (.bin .neq .scalar (.t 76) (ci 0)) 73 false,
Q 78 (.pick (.t 73) (cb true) (.t 77)),
V 79 78,
G 80 (.load false 1 (.t 5)) 79 false,
⟨some 81, .e (.callf 18 [(.t 80)]), some (79, false), 0⟩,
G 82 (.mov (.t 0)) 79 false,
G 83 (.bin .neq .scalar (.t 81) (.t 82)) 79 false,
Q 84 (.pick (.t 79) (cb true) (.t 83))]) (
.cond (.t 84) (
.seq (
.region [Q 2 (.mov (.c (.one (dc (.nilp))))),
Q 3 (.mov (ci 7))]) (
.ret)) (
.skip))) (
.seq (
.region [Q 85 (.load false 1 (.t 5)),
V 2 85,
Q 3 (.mov (ci 0))]) (
.ret))))))))))
def a64 : AFunc := ⟨c64, [.tmp 2, .tmp 3], false⟩
def c66 : ACode :=
.seq (
.region [Q 2 (.mov (.c (.one (dc (.nilp)))))]) (
.seq (
.seq (
.region [V 3 0,
Q 4 (.bin .eql .ptr (.t 3) (.c (.one (dc (.nilp)))))]) (
.cond (.t 4) (
.seq (
.region [Q 2 (.mov (.c (.one (dc (.nilp)))))]) (
.ret)) (
.skip))) (
.seq (
.region [V 5 0,
Q 6 (.nilck (.t 5)),
Q 7 (.faddr 2 (.t 6)),
Q 8 (.load false 1 (.t 7)),
E 9 (.callf 19 [(.t 8)]),
V 2 9]) (
.ret)))
def a66 : AFunc := ⟨c66, [.tmp 2], false⟩
def c67 : ACode :=
.seq (
.region [Q 2 (.mov (cb false))]) (
.seq (
.region [V 3 0,
Q 4 (.bin .neq .ptr (.t 3) (.c (.one (dc (.nilp))))),
V 5 4,
G 6 (.mov (.t 0)) 5 true,
G 7 (.nilck (.t 6)) 5 true,
G 8 (.faddr 5 (.t 7)) 5 true,
G 9 (.load false 1 (.t 8)) 5 true,
Q 10 (.pick (.t 5) (.t 9) (cb false)),
V 2 10]) (
.ret))
def a67 : AFunc := ⟨c67, [.tmp 2], false⟩
def c68 : ACode :=
.seq (
.region [Q 2 (.mov (cb false))]) (
.seq (
.region [V 3 0,
Q 4 (.bin .neq .ptr (.t 3) (.c (.one (dc (.nilp))))),
V 5 4,
G 6 (.mov (.t 0)) 5 true,
G 7 (.nilck (.t 6)) 5 true,
G 8 (.faddr 0 (.t 7)) 5 true,
G 9 (.load false 1 (.t 8)) 5 true,
G 10 (.bin .neq .ptr (.t 9) (.c (.one (dc (.nilp))))) 5 true,
Q 11 (.pick (.t 5) (.t 10) (cb false)),
V 2 11]) (
.ret))
def a68 : AFunc := ⟨c68, [.tmp 2], false⟩
def c69 : ACode :=
.seq (
.region [Q 2 (.mov (cs [])),
Q 3 (.mov (ci 0)),
Q 4 (.mov (ci 0))]) (
.seq (
.seq (
.region [V 11 0,
Q 12 (.len .str (.t 11)),
Q 13 (.bin .lss .scalar (.t 12) (ci 4))]) (
.cond (.t 13) (
.seq (
.region [Q 2 (.mov (cs [])),
Q 3 (.mov (ci 0)),
Q 4 (.mov (ci 8))]) (
.ret)) (
.skip))) (
.seq (
.region [Q 5 (.mov (ci 0))]) (
.seq (
.seq (
.region [V 14 0,
Q 15 (.sslice (.t 14) none (some (ci 4))),
M 16 (.s2b 5 (.t 15)),
Q 17 (.len .sl (.t 16)),
Q 18 (.mov (ci 0))]) (
.block 0 (
.loop (
.seq (
.region [Q 19 (.bin .lss .scalar (.t 18) (.t 17))]) (
.seq (
.cond (.t 19) (
.skip) (
.exit 0)) (
.seq (
.block 1 (
.seq (
.region [Q 20 (.iaddr 1 none (.t 16) (.t 18)),
Q 21 (.load false 1 (.t 20)),
V 7 21]) (
.region [V 22 5,
Q 23 (.bin .shl .scalar (.t 22) (.c (.one (dc (.int .u64 8))))),
V 24 7,
Q 25 (.conv (.int .i64) (.t 24)),
Q 26 (.bin .or .scalar (.t 23) (.t 25)),
V 5 26]))) (
.region [Q 27 (.bin .add .scalar (.t 18) (ci 1)),
V 18 27]))))))) (
.seq (
.region [V 28 5,
Q 29 (.bin .add .scalar (.t 28) (ci 8)),
V 8 29]) (
.seq (
.block 2 (
.seq (
.region [V 31 5,
Q 32 (.bin .gtr .scalar (.t 31) (ci 100000)),
V 30 32]) (
.cond (.t 30) (
.seq (
.region [Q 2 (.mov (cs [])),
Q 3 (.mov (ci 0)),
Q 4 (.mov (ci 19))]) (
.ret)) (
.seq (
.region [V 34 0,
Q 35 (.len .str (.t 34)),
V 36 8,
Q 37 (.bin .lss .scalar (.t 35) (.t 36)),
V 33 37]) (
.cond (.t 33) (
.seq (
.region [Q 2 (.mov (cs [])),
Q 3 (.mov (ci 0)),
Q 4 (.mov (ci 8))]) (
.ret)) (
.skip)))))) (
.seq (
.region [V 39 0,
V 40 8,
Q 41 (.sslice (.t 39) (some (ci 4)) (some (.t 40))),
E 42 (.callf 120 [(.t 41)]),
V 38 42,
Q 43 (.extract 0 (.t 38)),
Q 44 (.extract 1 (.t 38)),
V 9 43,
V 10 44]) (
.seq (
.seq (
.region [V 45 10,
Q 46 (.un .not (.t 45))]) (
.cond (.t 46) (
.seq (
.region [Q 2 (.mov (cs [])),
Q 3 (.mov (ci 0)),
Q 4 (.mov (ci 9))]) (
.ret)) (
.skip))) (
.seq (
.region [V 47 9,
V 48 8,
V 2 47,
V 3 48,
Q 4 (.mov (ci 0))]) (
.ret)))))))))
def a69 : AFunc := ⟨c69, [.tmp 2, .tmp 3, .tmp 4], true⟩
def c70 : ACode :=
.seq (
.region [M 4 (.alloc 137 2 zl7)]) (
.seq (
.region [V 8 1,
E 9 (.callf 121 [(.t 8)]),
V 7 9,
Q 10 (.extract 0 (.t 7)),
Q 11 (.extract 1 (.t 7)),
M 5 (.alloc 24 3 zl6),
S 3 5 10,
V 6 11]) (
.seq (
.block 0 (
.seq (
.region [V 13 6,
Q 14 (.bin .neq .scalar (.t 13) (ci 0)),
V 12 14]) (
.cond (.t 12) (
.seq (
.region [V 15 6,
Q 16 (.build zl7 [(1, 1, (.t 15))]),
S 2 4 16]) (
.ret)) (
.seq (
.draw [D 0 18 (.faddr 0 (.t 5)) 0,
D 1 19 (.load false 1 (.t 18)) 1,
W 2 20 0 0,
⟨3, ⟨some 21, .e (.callf 24 [(.t 20)]), none, 4⟩⟩,
D 4 22 (.bin .leq .scalar (.t 19) (.t 21)) 15,
W 5 17 22 31]) (
.cond (.t 17) (
.seq (
.region [V 23 0,
Q 24 (.nilck (.t 23)),
Q 25 (.faddr 4 (.t 24)),
Q 26 (.load false 1 (.t 25)),
Q 27 (.bin .add .scalar (.t 26) (ci 1)),
Q 28 (.nilck (.t 23)),
Q 29 (.faddr 4 (.t 28)),
S 1 29 27]) (
.seq (
.region [Q 30 (.faddr 0 (.t 5)),
Q 31 (.load false 1 (.t 30)),
Q 32 (.build zl7 [(0, 1, (.t 31))]),
S 2 4 32]) (
.ret))) (
.skip)))))) (
.seq (
.draw [D 0 33 (.faddr 0 (.t 5)) 0,
D 1 34 (.load false 1 (.t 33)) 1,
W 2 35 0 0,
D 3 36 (.load true 3 (.t 5)) 0,
⟨4, ⟨some 37, .e (.callf 122 [(.t 35), (.t 36)]), none, 12⟩⟩,
D 5 38 (.build zl7 [(0, 1, (.t 34)), (1, 1, (.t 37))]) 31,
⟨6, ⟨none, .e (.store 2 (.t 4) (.t 38)), none, 63⟩⟩]) (
.ret))))
def a70 : AFunc := ⟨c70, [.cell 4 true 2], false⟩
def c72 : ACode :=
.seq (
.region [M 1 (.box 24 3 (.t 0)),
Q 2 (.mov (cs []))]) (
.seq (
.region [Q 4 (.load true 3 (.t 1)),
E 5 (.callf 124 [(.t 4)]),
V 3 5]) (
.seq (
.seq (
.region [V 6 3,
Q 7 (.bin .eql .scalar (.t 6) (cs []))]) (
.cond (.t 7) (
.seq (
.region [Q 2 (.mov (cs []))]) (
.ret)) (
.skip))) (
.seq (
.region [V 8 3,
Q 9 (.len .str (.t 8)),
E 10 (.callf 125 [(.t 9)]),
V 11 3,
E 12 (.callf 126 [(.t 11)]),
Q 13 (.bin .add .scalar (.t 10) (.t 12)),
V 2 13]) (
.ret))))
def a72 : AFunc := ⟨c72, [.tmp 2], true⟩
def c75 : ACode :=
.seq (
.region [Q 2 (.mov (ci 0))]) (
.seq (
.block 0 (
.seq (
.region [V 4 0,
Q 5 (.bin .eql .ptr (.t 4) (.c (.one (dc (.nilp))))),
V 6 5,
G 7 (.mov (.t 0)) 6 false,
G 8 (.nilck (.t 7)) 6 false,
G 9 (.faddr 1 (.t 8)) 6 false,
G 10 (.load false 1 (.t 9)) 6 false,
G 11 (.bin .eql .ptr (.t 10) (.c (.one (dc (.nilp))))) 6 false,
Q 12 (.pick (.t 6) (cb true) (.t 11)),
V 3 12]) (
.cond (.t 3) (
.seq (
.region [Q 2 (.mov (ci 13))]) (
.ret)) (
.seq (
.region [V 14 0,
Q 15 (.nilck (.t 14)),
Q 16 (.faddr 0 (.t 15)),
Q 17 (.load false 1 (.t 16)),
Q 18 (.bin .eql .ptr (.t 17) (.c (.one (dc (.nilp))))),
V 13 18]) (
.cond (.t 13) (
.seq (
.region [Q 2 (.mov (ci 6))]) (
.ret)) (
.skip)))))) (
.seq (
.region [Q 2 (.mov (ci 0))]) (
.ret)))
def a75 : AFunc := ⟨c75, [.tmp 2], false⟩
def c76 : ACode :=
.seq (
.region [M 3 (.box 74 11 (.t 1)),
Q 4 (.mov (.c (.one (dc (.sl [] true))))),
Q 5 (.mov (ci 0))]) (
.seq (
.seq (
.region [V 12 0,
Q 13 (.bin .eql .ptr (.t 12) (.c (.one (dc (.nilp)))))]) (
.cond (.t 13) (
.seq (
.region [Q 4 (.mov (.c (.one (dc (.sl [] true))))),
Q 5 (.mov (ci 13))]) (
.ret)) (
.skip))) (
.seq (
.region [V 15 0,
Q 16 (.load true 11 (.t 3)),
E 17 (.callf 127 [(.t 15), (.t 16)]),
V 14 17,
Q 18 (.extract 0 (.t 14)),
Q 19 (.extract 1 (.t 14)),
M 6 (.alloc 36 3 zl29),
S 3 6 18,
V 7 19]) (
.seq (
.block 0 (
.seq (
.region [V 21 7,
Q 22 (.bin .neq .scalar (.t 21) (ci 0)),
V 20 22]) (
.cond (.t 20) (
.seq (
.region [V 23 7,
Q 4 (.mov (.c (.one (dc (.sl [] true))))),
V 5 23]) (
.ret)) (
.seq (
.region [Q 25 (.load true 11 (.t 3)),
Q 26 (.load true 3 (.t 6)),
E 27 (.callf 128 [(.t 25), (.t 26)]),
Q 28 (.un .not (.t 27)),
V 24 28]) (
.cond (.t 24) (
.seq (
.region [Q 4 (.mov (.c (.one (dc (.sl [] true))))),
Q 5 (.mov (ci 14))]) (
.ret)) (
.skip)))))) (
.seq (
.draw [D 1 31 (.faddr 0 (.t 3)) 0,
D 2 32 (.load false 1 (.t 31)) 2,
W 5 35 0 0,
D 6 36 (.load true 11 (.t 3)) 0,
⟨0, ⟨some 30, .e (.callf 129 []), none, 0⟩⟩,
D 3 33 (.lookup (.int .i64) (.agg [dc (.nilf), dc (.nilf)]) false (.t 30) (.t 32)) 7,
D 4 34 (.field false 1 1 (.t 33)) 15,
⟨7, ⟨some 37, .e (.callv (.t 34) [(.t 35), (.t 36)]), none, 127⟩⟩,
W 8 29 37 255,
D 9 38 (.extract 0 (.t 29)) 511,
D 10 39 (.extract 1 (.t 29)) 511,
W 11 8 38 1023,
W 12 7 39 4095]) (
.seq (
.seq (
.region [V 40 7,
Q 41 (.bin .neq .scalar (.t 40) (ci 0))]) (
.cond (.t 41) (
.seq (
.region [V 42 7,
Q 4 (.mov (.c (.one (dc (.sl [] true))))),
V 5 42]) (
.ret)) (
.skip))) (
.seq (
.region [Q 9 (.mov (.c (.one (dc (.sl [] true)))))]) (
.seq (
.seq (
.region [V 43 8,
Q 44 (.len .sl (.t 43)),
Q 45 (.mov (ci 0))]) (
.block 1 (
.loop (
.seq (
.region [Q 46 (.bin .lss .scalar (.t 45) (.t 44))]) (
.seq (
.cond (.t 46) (
.skip) (
.exit 1)) (
.seq (
.block 2 (
.seq (
.region [V 47 45,
V 10 47]) (
.seq (
.region [V 48 8,
V 49 10,
Q 50 (.iaddr 6 none (.t 48) (.t 49)),
Q 51 (.load true 6 (.t 50)),
M 11 (.alloc 209 6 zl27),
S 6 11 51]) (
.seq (
.seq (
.region [Q 52 (.faddr 10 (.t 3)),
Q 53 (.load false 1 (.t 52))]) (
.cond (.t 53) (
.region [V 54 8,
V 55 8,
Q 56 (.len .sl (.t 55)),
Q 57 (.bin .sub .scalar (.t 56) (ci 1)),
V 58 10,
Q 59 (.bin .sub .scalar (.t 57) (.t 58)),
Q 60 (.iaddr 6 none (.t 54) (.t 59)),
Q 61 (.load true 6 (.t 60)),
S 6 11 61]) (
.skip))) (
.seq (
.seq (
.region [Q 62 (.faddr 9 (.t 3)),
Q 63 (.load false 1 (.t 62)),
Q 64 (.bin .gtr .scalar (.t 63) (ci 0)),
V 65 64,
G 66 (.mov (.t 9)) 65 true,
G 67 (.len .sl (.t 66)) 65 true,
G 68 (.faddr 9 (.t 3)) 65 true,
G 69 (.load false 1 (.t 68)) 65 true,
G 70 (.bin .eql .scalar (.t 67) (.t 69)) 65 true,
Q 71 (.pick (.t 65) (.t 70) (cb false))]) (
.cond (.t 71) (
.exit 1) (
.skip))) (
.seq (
.region [Q 72 (.load true 11 (.t 3)),
Q 73 (.faddr 5 (.t 11)),
Q 74 (.load false 1 (.t 73)),
E 75 (.callf 130 [(.t 72), (.t 74)])]) (
.cond (.t 75) (
.seq (
.region [Q 76 (.load true 11 (.t 3)),
Q 77 (.faddr 5 (.t 11)),
Q 78 (.load false 1 (.t 77)),
E 79 (.callf 131 [(.t 76), (.t 78)]),
Q 80 (.faddr 5 (.t 11)),
S 1 80 79]) (
.region [V 81 9,
Q 82 (.load true 6 (.t 11)),
M 83 (.bslice 209 6 1 zl27 [(0, 6, (.t 82))]),
E 84 (.append 209 6 72 (.t 81) (.t 83)),
V 9 84])) (
.skip)))))))) (
.region [Q 85 (.bin .add .scalar (.t 45) (ci 1)),
V 45 85]))))))) (
.seq (
.region [V 86 9,
V 4 86,
Q 5 (.mov (ci 0))]) (
.ret)))))))))
def a76 : AFunc := ⟨c76, [.tmp 4, .tmp 5], true⟩
def c77 : ACode :=
.seq (
.region [Q 4 (.mov (ci 0)),
Q 5 (.mov (ci 0))]) (
.seq (
.seq (
.region [V 11 0,
E 12 (.callf 132 [(.t 11)]),
V 6 12]) (
.seq (
.region [V 13 6,
Q 14 (.bin .neq .scalar (.t 13) (ci 0))]) (
.cond (.t 14) (
.seq (
.region [V 15 6,
Q 4 (.mov (ci 0)),
V 5 15]) (
.ret)) (
.skip)))) (
.seq (
.region [V 16 0,
Q 17 (.nilck (.t 16)),
Q 18 (.faddr 2 (.t 17)),
Q 19 (.load false 1 (.t 18)),
E 20 (.callf 19 [(.t 19)]),
V 7 20]) (
.seq (
.region [V 22 7,
V 23 1,
E 24 (.callf 9 [(.t 22), (.t 23)]),
V 21 24,
Q 25 (.extract 0 (.t 21)),
Q 26 (.extract 1 (.t 21)),
V 8 25,
V 9 26]) (
.seq (
.seq (
.region [V 27 9,
Q 28 (.bin .neq .scalar (.t 27) (ci 0))]) (
.cond (.t 28) (
.seq (
.region [V 29 9,
Q 4 (.mov (ci 0)),
V 5 29]) (
.ret)) (
.skip))) (
.seq (
.seq (
.region [V 30 0,
V 31 7,
E 32 (.callf 133 [(.t 30), (.t 31)]),
V 10 32]) (
.seq (
.region [V 33 10,
Q 34 (.bin .neq .scalar (.t 33) (ci 0))]) (
.cond (.t 34) (
.seq (
.region [V 35 10,
Q 4 (.mov (ci 0)),
V 5 35]) (
.ret)) (
.skip)))) (
.seq (
.region [V 36 8,
V 4 36,
Q 5 (.mov (ci 0))]) (
.ret)))))))
def a77 : AFunc := ⟨c77, [.tmp 4, .tmp 5], false⟩
def c78 : ACode :=
.seq (
.region [V 4 0,
E 5 (.callf 134 [(.t 4)]),
Q 6 (.bin .gtr .scalar (.t 5) (ci 0))]) (
.cond (.t 6) (
.region [V 7 0,
V 8 0,
V 9 1,
Q 10 (.mnmx true (.t 9) (ci 0)),
Q 11 (.nilck (.t 7)),
Q 12 (.faddr 5 (.t 11)),
⟨none, .e (.store 1 (.t 12) (cb true)), none, 0⟩,
Q 13 (.nilck (.t 8)),
Q 14 (.faddr 6 (.t 13)),
S 1 14 10]) (
.skip))
def a78 : AFunc := ⟨c78, [], false⟩
def c79 : ACode :=
.seq (
.region [Q 2 (.mov (ci 0))]) (
.seq (
.seq (
.region [V 4 0,
E 5 (.callf 132 [(.t 4)]),
V 3 5]) (
.seq (
.region [V 6 3,
Q 7 (.bin .neq .scalar (.t 6) (ci 0))]) (
.cond (.t 7) (
.seq (
.region [V 8 3,
V 2 8]) (
.ret)) (
.skip)))) (
.seq (
.region [V 9 0,
V 10 0,
Q 11 (.nilck (.t 10)),
Q 12 (.faddr 2 (.t 11)),
Q 13 (.load false 1 (.t 12)),
E 14 (.callf 19 [(.t 13)]),
E 15 (.callf 133 [(.t 9), (.t 14)]),
V 2 15]) (
.ret)))
def a79 : AFunc := ⟨c79, [.tmp 2], false⟩
def c80 : ACode :=
.seq (
.region [Q 4 (.mov (ci 0))]) (
.seq (
.block 0 (
.seq (
.region [V 8 0,
E 9 (.callf 134 [(.t 8)]),
Q 10 (.bin .eql .scalar (.t 9) (ci 0)),
V 7 10]) (
.cond (.t 7) (
.seq (
.region [Q 4 (.mov (ci 13))]) (
.ret)) (
.seq (
.region [V 12 1,
Q 13 (.len .sl (.t 12)),
V 14 0,
Q 15 (.nilck (.t 14)),
Q 16 (.faddr 2 (.t 15)),
Q 17 (.load false 1 (.t 16)),
Q 18 (.len .sl (.t 17)),
Q 19 (.bin .gtr .scalar (.t 13) (.t 18)),
V 11 19]) (
.cond (.t 11) (
.seq (
.region [Q 4 (.mov (ci 1))]) (
.ret)) (
.skip)))))) (
.seq (
.seq (
.region [V 20 1,
Q 21 (.len .sl (.t 20)),
Q 22 (.mov (ci 0))]) (
.block 1 (
.loop (
.seq (
.region [Q 23 (.bin .lss .scalar (.t 22) (.t 21))]) (
.seq (
.cond (.t 23) (
.skip) (
.exit 1)) (
.seq (
.block 2 (
.seq (
.region [V 24 22,
Q 25 (.iaddr 1 none (.t 20) (.t 22)),
Q 26 (.load false 1 (.t 25)),
V 5 24,
V 6 26]) (
.seq (
.region [V 27 6]) (
.cond (.t 27) (
.region [V 28 0,
V 29 0,
Q 30 (.nilck (.t 29)),
Q 31 (.faddr 2 (.t 30)),
Q 32 (.load false 1 (.t 31)),
V 33 5,
Q 34 (.iaddr 2 none (.t 32) (.t 33)),
Q 35 (.load true 2 (.t 34)),
E 36 (.callf 135 [(.t 28), (.t 35)])]) (
.skip))))) (
.region [Q 37 (.bin .add .scalar (.t 22) (ci 1)),
V 22 37]))))))) (
.seq (
.region [V 38 0,
V 39 0,
Q 40 (.nilck (.t 38)),
Q 41 (.faddr 2 (.t 40)),
⟨none, .e (.store 1 (.t 41) (.c (.one (dc (.sl [] true))))), none, 0⟩,
Q 42 (.nilck (.t 39)),
Q 43 (.faddr 5 (.t 42)),
⟨none, .e (.store 1 (.t 43) (cb false)), none, 0⟩]) (
.seq (
.region [Q 4 (.mov (ci 0))]) (
.ret)))))
def a80 : AFunc := ⟨c80, [.tmp 4], false⟩
def c81 : ACode :=
.seq (
.region [Q 4 (.mov (.c (.one (dc (.nilp))))),
Q 5 (.mov (ci 0))]) (
.seq (
.region [V 15 0,
V 16 1,
E 17 (.callf 136 [(.t 15), (.t 16)]),
V 14 17,
Q 18 (.extract 0 (.t 14)),
Q 19 (.extract 1 (.t 14)),
V 6 18,
V 7 19]) (
.seq (
.seq (
.region [V 20 7,
Q 21 (.bin .neq .scalar (.t 20) (ci 0))]) (
.cond (.t 21) (
.seq (
.region [V 22 7,
Q 4 (.mov (.c (.one (dc (.nilp))))),
V 5 22]) (
.ret)) (
.skip))) (
.seq (
.region [V 24 6,
E 25 (.callf 137 [(.t 24)]),
V 23 25,
Q 26 (.extract 0 (.t 23)),
Q 27 (.extract 1 (.t 23)),
V 8 26,
V 7 27]) (
.seq (
.seq (
.region [V 28 7,
Q 29 (.bin .neq .scalar (.t 28) (ci 0))]) (
.cond (.t 29) (
.seq (
.region [V 30 7,
Q 4 (.mov (.c (.one (dc (.nilp))))),
V 5 30]) (
.ret)) (
.skip))) (
.seq (
.seq (
.region [V 31 6,
E 32 (.callf 138 [(.t 31)]),
V 9 32]) (
.seq (
.region [V 33 9,
Q 34 (.bin .neq .scalar (.t 33) (ci 0))]) (
.cond (.t 34) (
.seq (
.region [V 35 9,
Q 4 (.mov (.c (.one (dc (.nilp))))),
V 5 35]) (
.ret)) (
.skip)))) (
.seq (
.region [V 36 6,
V 37 8,
E 38 (.callf 61 []),
Q 39 (.build zl22 [(0, 1, (.t 36)), (1, 1, (.t 37)), (2, 1, (.t 38))]),
M 40 (.box 65 6 (.t 39)),
V 10 40]) (
.seq (
.region [V 42 8,
E 43 (.callf 139 [(.t 42)]),
V 41 43,
Q 44 (.extract 0 (.t 41)),
Q 45 (.extract 1 (.t 41)),
V 11 44,
V 7 45]) (
.seq (
.seq (
.region [V 46 7]) (
.block 0 (
.seq (
.region [Q 49 (.bin .eql .scalar (.t 46) (ci 4)),
V 48 49]) (
.cond (.t 48) (
.seq (
.region [V 50 10,
V 4 50,
Q 5 (.mov (ci 0))]) (
.ret)) (
.seq (
.region [Q 52 (.bin .eql .scalar (.t 46) (ci 0)),
V 51 52]) (
.cond (.t 51) (
.skip) (
.seq (
.region [V 47 7,
Q 4 (.mov (.c (.one (dc (.nilp))))),
V 5 47]) (
.ret)))))))) (
.seq (
.region [V 54 11,
E 55 (.callf 140 [(.t 54)]),
V 53 55,
Q 56 (.extract 0 (.t 53)),
Q 57 (.extract 1 (.t 53)),
M 12 (.alloc 63 2 zl9),
S 2 12 56,
V 13 57]) (
.seq (
.region [V 58 10,
Q 59 (.load true 2 (.t 12)),
Q 60 (.nilck (.t 58)),
Q 61 (.faddr 3 (.t 60)),
S 2 61 59]) (
.seq (
.seq (
.region [V 62 13,
Q 63 (.un .not (.t 62)),
V 64 63,
G 65 (.mov (.t 10)) 64 false,
⟨some 66, .e (.callf 141 [(.t 65)]), some (64, false), 0⟩,
G 67 (.un .not (.t 66)) 64 false,
Q 68 (.pick (.t 64) (cb true) (.t 67))]) (
.cond (.t 68) (
.seq (
.region [Q 4 (.mov (.c (.one (dc (.nilp))))),
Q 5 (.mov (ci 7))]) (
.ret)) (
.skip))) (
.seq (
.region [V 69 10,
V 4 69,
Q 5 (.mov (ci 0))]) (
.ret)))))))))))))
def a81 : AFunc := ⟨c81, [.tmp 4, .tmp 5], false⟩
def c82 : ACode :=
.seq (
.region [Q 2 (.mov (.c (.one (dc (.nilp)))))]) (
.seq (
.seq (
.region [V 3 0,
E 4 (.callf 35 [(.t 3)]),
Q 5 (.un .not (.t 4))]) (
.cond (.t 5) (
.seq (
.region [Q 2 (.mov (.c (.one (dc (.nilp)))))]) (
.ret)) (
.skip))) (
.seq (
.region [V 6 0,
Q 7 (.nilck (.t 6)),
Q 8 (.faddr 0 (.t 7)),
Q 9 (.load false 1 (.t 8)),
Q 10 (.nilck (.t 9)),
Q 11 (.faddr 1 (.t 10)),
Q 12 (.load false 1 (.t 11)),
E 13 (.callf 66 [(.t 12)]),
V 2 13]) (
.ret)))
def a82 : AFunc := ⟨c82, [.tmp 2], false⟩
def c83 : ACode :=
.seq (
.region [Q 2 (.mov (.c (.one (dc (.sl [] true)))))]) (
.seq (
.seq (
.region [V 6 0,
E 7 (.callf 134 [(.t 6)]),
Q 8 (.bin .eql .scalar (.t 7) (ci 0))]) (
.cond (.t 8) (
.seq (
.region [Q 2 (.mov (.c (.one (dc (.sl [] true)))))]) (
.ret)) (
.skip))) (
.seq (
.region [Q 3 (.mov (.c (.one (dc (.sl [] true)))))]) (
.seq (
.seq (
.region [V 9 0,
Q 10 (.nilck (.t 9)),
Q 11 (.faddr 2 (.t 10)),
Q 12 (.load false 1 (.t 11)),
Q 13 (.len .sl (.t 12)),
Q 14 (.mov (ci 0))]) (
.block 0 (
.loop (
.seq (
.region [Q 15 (.bin .lss .scalar (.t 14) (.t 13))]) (
.seq (
.cond (.t 15) (
.skip) (
.exit 0)) (
.seq (
.block 1 (
.seq (
.region [Q 16 (.iaddr 2 none (.t 12) (.t 14)),
Q 17 (.load true 2 (.t 16)),
M 5 (.alloc 219 2 zl14),
S 2 5 17]) (
.region [V 18 3,
Q 19 (.faddr 0 (.t 5)),
Q 20 (.load false 1 (.t 19)),
M 21 (.bslice 3 1 1 [dc (.int .i64 0)] [(0, 1, (.t 20))]),
E 22 (.append 3 1 8 (.t 18) (.t 21)),
V 3 22]))) (
.region [Q 23 (.bin .add .scalar (.t 14) (ci 1)),
V 14 23]))))))) (
.seq (
.region [V 24 3,
V 2 24]) (
.ret)))))
def a83 : AFunc := ⟨c83, [.tmp 2], false⟩
def c84 : ACode :=
.seq (
.region [Q 4 (.mov (.c (.one (dc (.nilp))))),
Q 5 (.mov (ci 0))]) (
.seq (
.region [V 11 0,
E 12 (.callf 123 [(.t 11)]),
V 10 12,
Q 13 (.extract 0 (.t 10)),
Q 14 (.extract 1 (.t 10)),
V 6 13,
V 7 14]) (
.seq (
.seq (
.region [V 15 7,
Q 16 (.bin .neq .scalar (.t 15) (ci 0))]) (
.cond (.t 16) (
.seq (
.region [V 17 7,
Q 4 (.mov (.c (.one (dc (.nilp))))),
V 5 17]) (
.ret)) (
.skip))) (
.seq (
.region [V 18 6,
V 19 1,
Q 20 (.build zl21 [(1, 1, (.t 18)), (2, 1, (.t 19))]),
M 21 (.box 79 3 (.t 20)),
V 8 21]) (
.seq (
.seq (
.region [V 22 8,
E 23 (.callf 34 [(.t 22)]),
V 9 23]) (
.seq (
.region [V 24 9,
Q 25 (.bin .neq .scalar (.t 24) (ci 0))]) (
.cond (.t 25) (
.seq (
.region [V 26 9,
Q 4 (.mov (.c (.one (dc (.nilp))))),
V 5 26]) (
.ret)) (
.skip)))) (
.seq (
.region [V 27 8,
V 4 27,
Q 5 (.mov (ci 0))]) (
.ret))))))
def a84 : AFunc := ⟨c84, [.tmp 4, .tmp 5], false⟩
def c85 : ACode :=
.seq (
.region [Q 2 (.mov (cb false))]) (
.seq (
.seq (
.region [V 7 0,
Q 8 (.len .sl (.t 7)),
Q 9 (.mov (ci 0))]) (
.block 0 (
.loop (
.seq (
.region [Q 10 (.bin .lss .scalar (.t 9) (.t 8))]) (
.seq (
.cond (.t 10) (
.skip) (
.exit 0)) (
.seq (
.block 1 (
.seq (
.region [V 11 9,
Q 12 (.iaddr 5 none (.t 7) (.t 9)),
Q 13 (.load true 5 (.t 12)),
M 4 (.alloc 105 5 zl2),
V 3 11,
S 5 4 13]) (
.seq (
.seq (
.draw [D 0 14 (.faddr 0 (.t 4)) 0,
D 1 15 (.load true 2 (.t 14)) 1,
⟨2, ⟨some 16, .e (.callf 45 [(.t 15)]), none, 3⟩⟩,
D 3 17 (.un .not (.t 16)) 7,
W 4 18 17 15,
⟨5, ⟨some 19, .q (.faddr 2 (.t 4)), some (18, false), 31⟩⟩,
⟨6, ⟨some 20, .q (.load true 3 (.t 19)), some (18, false), 63⟩⟩,
⟨7, ⟨some 21, .m (.bslice 98 3 1 zl6 [(0, 3, (.t 20))]), some (18, false), 127⟩⟩,
⟨8, ⟨some 22, .e (.callf 101 [(.t 21)]), some (18, false), 255⟩⟩,
⟨9, ⟨some 23, .q (.un .not (.t 22)), some (18, false), 511⟩⟩,
D 10 24 (.pick (.t 18) (cb true) (.t 23)) 1023,
W 11 25 24 2047,
⟨12, ⟨some 26, .q (.mov (.t 3)), some (25, false), 4095⟩⟩,
⟨13, ⟨some 27, .q (.bin .gtr .scalar (.t 26) (ci 0)), some (25, false), 8191⟩⟩,
⟨14, ⟨some 28, .q (.mov (.t 27)), some (25, false), 16383⟩⟩,
⟨15, ⟨some 29, .q (.load true 5 (.t 4)), some (28, true), 32767⟩⟩,
⟨16, ⟨some 30, .q (.mov (.t 0)), some (28, true), 32767⟩⟩,
⟨17, ⟨some 31, .q (.mov (.t 3)), some (28, true), 32767⟩⟩,
⟨18, ⟨some 32, .q (.bin .sub .scalar (.t 31) (ci 1)), some (28, true), 163839⟩⟩,
⟨19, ⟨some 33, .q (.iaddr 5 none (.t 30) (.t 32)), some (28, true), 491519⟩⟩,
⟨20, ⟨some 34, .q (.load true 5 (.t 33)), some (28, true), 1015807⟩⟩,
⟨21, ⟨some 35, .e (.callf 142 [(.t 29), (.t 34)]), some (28, true), 2097151⟩⟩,
⟨22, ⟨some 36, .q (.pick (.t 28) (.t 35) (cb false)), some (25, false), 4194303⟩⟩,
D 23 37 (.pick (.t 25) (cb true) (.t 36)) 8388607]) (
.cond (.t 37) (
.seq (
.region [Q 2 (.mov (cb false))]) (
.ret)) (
.skip))) (
.seq (
.region [V 38 0,
V 39 3,
Q 40 (.slice 5 (.t 38) none (some (.t 39)) none),
Q 41 (.len .sl (.t 40)),
Q 42 (.mov (ci 0))]) (
.block 2 (
.loop (
.seq (
.region [Q 43 (.bin .lss .scalar (.t 42) (.t 41))]) (
.seq (
.cond (.t 43) (
.skip) (
.exit 2)) (
.seq (
.block 3 (
.seq (
.region [Q 44 (.iaddr 5 none (.t 40) (.t 42)),
Q 45 (.load true 5 (.t 44)),
M 6 (.alloc 105 5 zl2),
S 5 6 45]) (
.seq (
.region [Q 46 (.load true 5 (.t 4)),
Q 47 (.load true 5 (.t 6)),
E 48 (.callf 143 [(.t 46), (.t 47)])]) (
.cond (.t 48) (
.seq (
.region [Q 2 (.mov (cb false))]) (
.ret)) (
.skip))))) (
.region [Q 49 (.bin .add .scalar (.t 42) (ci 1)),
V 42 49])))))))))) (
.region [Q 50 (.bin .add .scalar (.t 9) (ci 1)),
V 9 50]))))))) (
.seq (
.region [Q 2 (.mov (cb true))]) (
.ret)))
def a85 : AFunc := ⟨c85, [.tmp 2], true⟩
def c86 : ACode :=
.seq (
.region [Q 4 (.mov (.c (.one (dc (.sl [] true)))))]) (
.seq (
.region [Q 5 (.mov (.c (.one (dc (.sl [] true)))))]) (
.seq (
.seq (
.region [V 8 0,
Q 9 (.len .sl (.t 8)),
Q 10 (.mov (ci 0))]) (
.block 0 (
.loop (
.seq (
.region [Q 11 (.bin .lss .scalar (.t 10) (.t 9))]) (
.seq (
.cond (.t 11) (
.skip) (
.exit 0)) (
.seq (
.block 1 (
.seq (
.region [Q 12 (.iaddr 5 none (.t 8) (.t 10)),
Q 13 (.load true 5 (.t 12)),
M 7 (.alloc 105 5 zl2),
S 5 7 13]) (
.seq (
.region [V 14 1,
Q 15 (.load true 5 (.t 7)),
E 16 (.callv (.t 14) [(.t 15)])]) (
.cond (.t 16) (
.seq (
.region [Q 17 (.faddr 2 (.t 7)),
Q 18 (.faddr 2 (.t 17)),
Q 19 (.load false 1 (.t 18)),
E 20 (.append 128 4 40 (.c (.one (dc (.sl [] true)))) (.t 19)),
Q 21 (.faddr 2 (.t 7)),
Q 22 (.faddr 2 (.t 21)),
S 1 22 20]) (
.region [V 23 5,
Q 24 (.load true 5 (.t 7)),
M 25 (.bslice 105 5 1 zl2 [(0, 5, (.t 24))]),
E 26 (.append 105 5 56 (.t 23) (.t 25)),
V 5 26])) (
.skip))))) (
.region [Q 27 (.bin .add .scalar (.t 10) (ci 1)),
V 10 27]))))))) (
.seq (
.region [V 28 5,
V 4 28]) (
.ret))))
def a86 : AFunc := ⟨c86, [.tmp 4], false⟩
def c87 : ACode :=
.seq (
.region [M 2 (.box 105 5 (.t 0)),
Q 3 (.mov (cb false))]) (
.seq (
.region [Q 4 (.faddr 0 (.t 2)),
Q 5 (.load true 2 (.t 4)),
Q 6 (.load false 1 (.t 1)),
E 7 (.callf 88 [(.t 5), (.t 6)]),
V 3 7]) (
.ret))
def a87 : AFunc := ⟨c87, [.tmp 3], true⟩
def c88 : ACode :=
.seq (
.region [M 2 (.box 26 2 (.t 0)),
Q 4 (.mov (cb false))]) (
.seq (
.region [Q 5 (.load true 2 (.t 2)),
E 6 (.callf 45 [(.t 5)]),
V 7 6,
G 8 (.faddr 0 (.t 2)) 7 true,
G 9 (.load false 1 (.t 8)) 7 true,
G 10 (.mov (.t 1)) 7 true,
G 11 (.bin .leq .scalar (.t 9) (.t 10)) 7 true,
Q 12 (.pick (.t 7) (.t 11) (cb false)),
V 13 12,
G 14 (.mov (.t 1)) 13 true,
G 15 (.faddr 1 (.t 2)) 13 true,
G 16 (.load false 1 (.t 15)) 13 true,
G 17 (.bin .lss .scalar (.t 14) (.t 16)) 13 true,
Q 18 (.pick (.t 13) (.t 17) (cb false)),
V 4 18]) (
.ret))
def a88 : AFunc := ⟨c88, [.tmp 4], true⟩
def c89 : ACode :=
.seq (
.region [M 2 (.box 36 3 (.t 0)),
Q 4 (.mov (.c (.one (dc (.sl [] true))))),
Q 5 (.mov (ci 0))]) (
.seq (
.block 0 (
.seq (
.region [Q 9 (.load true 3 (.t 2)),
E 10 (.callf 144 [(.t 9)]),
Q 11 (.un .not (.t 10)),
V 8 11]) (
.cond (.t 8) (
.seq (
.region [Q 4 (.mov (.c (.one (dc (.sl [] true))))),
Q 5 (.mov (ci 11))]) (
.ret)) (
.seq (
.region [V 13 1,
Q 14 (.len .sl (.t 13)),
Q 15 (.faddr 1 (.t 2)),
Q 16 (.load false 1 (.t 15)),
Q 17 (.len .sl (.t 16)),
Q 18 (.bin .gtr .scalar (.t 14) (.t 17)),
V 12 18]) (
.cond (.t 12) (
.seq (
.region [Q 4 (.mov (.c (.one (dc (.sl [] true))))),
Q 5 (.mov (ci 10))]) (
.ret)) (
.skip)))))) (
.seq (
.region [Q 19 (.faddr 1 (.t 2)),
Q 20 (.load false 1 (.t 19)),
Q 21 (.len .sl (.t 20)),
M 22 (.mkslice 128 4 40 zl5 (.t 21) (.t 21)),
V 6 22]) (
.seq (
.region [V 23 6,
V 24 1,
E 25 (.copy 4 (.t 23) (.t 24))]) (
.seq (
.seq (
.region [Q 26 (.load true 3 (.t 2)),
V 27 6,
E 28 (.callf 145 [(.t 26), (.t 27)]),
V 7 28]) (
.seq (
.region [V 29 7,
Q 30 (.bin .neq .scalar (.t 29) (ci 0))]) (
.cond (.t 30) (
.seq (
.region [V 31 7,
Q 4 (.mov (.c (.one (dc (.sl [] true))))),
V 5 31]) (
.ret)) (
.skip)))) (
.seq (
.region [V 32 6,
V 4 32,
Q 5 (.mov (ci 0))]) (
.ret))))))
def a89 : AFunc := ⟨c89, [.tmp 4, .tmp 5], true⟩
def c90 : ACode :=
.seq (
.region [Q 5 (.mov (cb false))]) (
.seq (
.region [Q 7 (.load false 1 (.t 2)),
Q 8 (.len .sl (.t 7)),
V 6 8]) (
.seq (
.region [V 9 6,
Q 10 (.bin .gtr .scalar (.t 9) (ci 0)),
V 11 10,
G 12 (.load false 1 (.t 2)) 11 true,
G 13 (.mov (.t 6)) 11 true,
G 14 (.bin .sub .scalar (.t 13) (ci 1)) 11 true,
G 15 (.iaddr 3 none (.t 12) (.t 14)) 11 true,
G 16 (.faddr 0 (.t 15)) 11 true,
G 17 (.faddr 1 (.t 16)) 11 true,
G 18 (.load false 1 (.t 17)) 11 true,
G 19 (.mov (.t 0)) 11 true,
G 20 (.bin .eql .scalar (.t 18) (.t 19)) 11 true,
Q 21 (.pick (.t 11) (.t 20) (cb false)),
V 22 21,
G 23 (.load false 1 (.t 2)) 22 true,
G 24 (.mov (.t 6)) 22 true,
G 25 (.bin .sub .scalar (.t 24) (ci 1)) 22 true,
G 26 (.iaddr 3 none (.t 23) (.t 25)) 22 true,
G 27 (.faddr 2 (.t 26)) 22 true,
G 28 (.load false 1 (.t 27)) 22 true,
G 29 (.mov (.t 1)) 22 true,
⟨some 30, .e (.callf 91 [(.t 28), (.t 29)]), some (22, true), 0⟩,
Q 31 (.pick (.t 22) (.t 30) (cb false)),
V 5 31]) (
.ret)))
def a90 : AFunc := ⟨c90, [.tmp 5], true⟩
def c91 : ACode :=
.seq (
.region [Q 4 (.mov (cb false))]) (
.seq (
.seq (
.region [V 6 0,
Q 7 (.len .sl (.t 6)),
V 8 1,
Q 9 (.len .sl (.t 8)),
Q 10 (.bin .neq .scalar (.t 7) (.t 9))]) (
.cond (.t 10) (
.seq (
.region [Q 4 (.mov (cb false))]) (
.ret)) (
.skip))) (
.seq (
.seq (
.region [V 11 0,
Q 12 (.len .sl (.t 11)),
Q 13 (.mov (ci 0))]) (
.block 0 (
.loop (
.seq (
.region [Q 14 (.bin .lss .scalar (.t 13) (.t 12))]) (
.seq (
.cond (.t 14) (
.skip) (
.exit 0)) (
.seq (
.block 1 (
.seq (
.region [V 15 13,
V 5 15]) (
.seq (
.draw [W 0 16 0 0,
W 1 17 5 0,
D 2 18 (.iaddr 3 none (.t 16) (.t 17)) 3,
D 3 19 (.faddr 0 (.t 18)) 7,
D 4 20 (.load true 2 (.t 19)) 15,
W 5 21 1 0,
W 6 22 5 0,
D 7 23 (.iaddr 3 none (.t 21) (.t 22)) 96,
D 8 24 (.faddr 0 (.t 23)) 224,
D 9 25 (.load true 2 (.t 24)) 480,
D 10 26 (.bin .neq (.agg [.int, .int]) (.t 20) (.t 25)) 1023,
W 11 27 26 2047,
⟨12, ⟨some 28, .q (.mov (.t 0)), some (27, false), 4095⟩⟩,
⟨13, ⟨some 29, .q (.mov (.t 5)), some (27, false), 4095⟩⟩,
⟨14, ⟨some 30, .q (.iaddr 3 none (.t 28) (.t 29)), some (27, false), 16383⟩⟩,
⟨15, ⟨some 31, .q (.faddr 2 (.t 30)), some (27, false), 32767⟩⟩,
⟨16, ⟨some 32, .q (.load false 1 (.t 31)), some (27, false), 65535⟩⟩,
⟨17, ⟨some 33, .q (.mov (.t 1)), some (27, false), 4095⟩⟩,
⟨18, ⟨some 34, .q (.mov (.t 5)), some (27, false), 4095⟩⟩,
⟨19, ⟨some 35, .q (.iaddr 3 none (.t 33) (.t 34)), some (27, false), 397311⟩⟩,
⟨20, ⟨some 36, .q (.faddr 2 (.t 35)), some (27, false), 921599⟩⟩,
⟨21, ⟨some 37, .q (.load false 1 (.t 36)), some (27, false), 1970175⟩⟩,
⟨22, ⟨some 38, .e (.callf 146 [(.t 32), (.t 37)]), some (27, false), 4194303⟩⟩,
⟨23, ⟨some 39, .q (.un .not (.t 38)), some (27, false), 8388607⟩⟩,
D 24 40 (.pick (.t 27) (cb true) (.t 39)) 16777215]) (
.cond (.t 40) (
.seq (
.region [Q 4 (.mov (cb false))]) (
.ret)) (
.skip))))) (
.region [Q 41 (.bin .add .scalar (.t 13) (ci 1)),
V 13 41]))))))) (
.seq (
.region [Q 4 (.mov (cb true))]) (
.ret))))
def a91 : AFunc := ⟨c91, [.tmp 4], true⟩
def c92 : ACode :=
.seq (
.region [Q 6 (.mov (ci 0))]) (
.seq (
.seq (
.region [V 11 0,
Q 12 (.len .sl (.t 11)),
Q 13 (.mov (ci 0))]) (
.block 0 (
.loop (
.seq (
.region [Q 14 (.bin .lss .scalar (.t 13) (.t 12))]) (
.seq (
.cond (.t 14) (
.skip) (
.exit 0)) (
.seq (
.block 1 (
.seq (
.region [Q 15 (.iaddr 5 none (.t 11) (.t 13)),
Q 16 (.load true 5 (.t 15)),
M 8 (.alloc 105 5 zl2),
S 5 8 16]) (
.seq (
.region [Q 17 (.faddr 0 (.t 8)),
Q 18 (.faddr 0 (.t 17)),
Q 19 (.load false 1 (.t 18)),
Q 20 (.faddr 0 (.t 8)),
Q 21 (.faddr 1 (.t 20)),
Q 22 (.load false 1 (.t 21)),
Q 23 (.build zl7 [(0, 1, (.t 19)), (1, 1, (.t 22))]),
Q 24 (.mov (ci 0))]) (
.block 2 (
.loop (
.seq (
.region [Q 25 (.bin .lss .scalar (.t 24) (ci 2))]) (
.seq (
.cond (.t 25) (
.skip) (
.exit 2)) (
.seq (
.block 3 (
.seq (
.region [Q 26 (.aidx false 2 1 (.t 23) (.t 24)),
V 10 26]) (
.seq (
.region [V 27 10,
V 28 1,
Q 29 (.bin .gtr .scalar (.t 27) (.t 28))]) (
.cond (.t 29) (
.region [V 30 2,
V 31 10,
Q 32 (.mnmx false (.t 30) (.t 31)),
V 2 32]) (
.skip))))) (
.region [Q 33 (.bin .add .scalar (.t 24) (ci 1)),
V 24 33]))))))))) (
.region [Q 34 (.bin .add .scalar (.t 13) (ci 1)),
V 13 34]))))))) (
.seq (
.region [V 35 2,
V 6 35]) (
.ret)))
def a92 : AFunc := ⟨c92, [.tmp 6], true⟩
def c93 : ACode :=
.seq (
.region [Q 2 (.mov (.c (.one (dc (.sl [] true)))))]) (
.seq (
.region [V 7 0,
E 8 (.callf 147 [(.t 7)]),
V 0 8]) (
.seq (
.seq (
.region [V 9 0,
E 10 (.callf 101 [(.t 9)]),
Q 11 (.un .not (.t 10))]) (
.cond (.t 11) (
.seq (
.region [V 12 0,
V 2 12]) (
.ret)) (
.skip))) (
.seq (
.region [M 3 (.alloc 30 1 [dc (.sl [] true)])]) (
.seq (
.region [Q 13 (.mkfn (.func 148) 148 [] [(.t 3)]),
V 4 13]) (
.seq (
.seq (
.region [V 14 0,
Q 15 (.len .sl (.t 14)),
Q 16 (.mov (ci 0))]) (
.block 0 (
.loop (
.seq (
.region [Q 17 (.bin .lss .scalar (.t 16) (.t 15))]) (
.seq (
.cond (.t 17) (
.skip) (
.exit 0)) (
.seq (
.block 1 (
.seq (
.region [Q 18 (.iaddr 3 none (.t 14) (.t 16)),
Q 19 (.load true 3 (.t 18)),
M 6 (.alloc 98 3 zl6),
S 3 6 19]) (
.seq (
.seq (
.region [V 20 4,
Q 21 (.load true 3 (.t 6)),
E 22 (.callv (.t 20) [(.t 21)])]) (
.cond (.t 22) (
.seq (
.region [Q 23 (.load false 1 (.t 3)),
Q 24 (.load false 1 (.t 3)),
Q 25 (.len .sl (.t 24)),
Q 26 (.bin .sub .scalar (.t 25) (ci 1)),
Q 27 (.faddr 0 (.t 6)),
Q 28 (.faddr 1 (.t 27)),
Q 29 (.load false 1 (.t 28)),
Q 30 (.iaddr 3 none (.t 23) (.t 26)),
Q 31 (.faddr 0 (.t 30)),
Q 32 (.faddr 1 (.t 31)),
S 1 32 29]) (
.exit 1)) (
.skip))) (
.region [Q 33 (.load false 1 (.t 3)),
Q 34 (.load true 3 (.t 6)),
M 35 (.bslice 98 3 1 zl6 [(0, 3, (.t 34))]),
E 36 (.append 98 3 40 (.t 33) (.t 35)),
S 1 3 36])))) (
.region [Q 37 (.bin .add .scalar (.t 16) (ci 1)),
V 16 37]))))))) (
.seq (
.region [Q 38 (.load false 1 (.t 3)),
V 2 38]) (
.ret)))))))
def a93 : AFunc := ⟨c93, [.tmp 2], true⟩
def c94 : ACode :=
.seq (
.region [M 1 (.box 105 5 (.t 0)),
Q 2 (.mov (cb false))]) (
.seq (
.region [Q 2 (.mov (cb true))]) (
.ret))
def a94 : AFunc := ⟨c94, [.tmp 2], true⟩
def c95 : ACode :=
.seq (
.region [M 2 (.box 105 5 (.t 0)),
Q 3 (.mov (cb false))]) (
.seq (
.region [Q 4 (.faddr 0 (.t 2)),
Q 5 (.faddr 1 (.t 4)),
Q 6 (.load false 1 (.t 5)),
Q 7 (.load false 1 (.t 1)),
Q 8 (.bin .gtr .scalar (.t 6) (.t 7)),
V 3 8]) (
.ret))
def a95 : AFunc := ⟨c95, [.tmp 3], true⟩
def c96 : ACode :=
.seq (
.region [M 1 (.box 24 3 (.t 0)),
Q 2 (.mov (cb false))]) (
.seq (
.seq (
.region [Q 5 (.faddr 2 (.t 1)),
Q 6 (.load false 1 (.t 5)),
Q 7 (.len .sl (.t 6)),
Q 8 (.mov (ci 0))]) (
.block 0 (
.loop (
.seq (
.region [Q 9 (.bin .lss .scalar (.t 8) (.t 7))]) (
.seq (
.cond (.t 9) (
.skip) (
.exit 0)) (
.seq (
.block 1 (
.seq (
.region [Q 10 (.iaddr 8 none (.t 6) (.t 8)),
Q 11 (.load true 8 (.t 10)),
M 4 (.alloc 116 8 zl11),
S 8 4 11]) (
.seq (
.region [Q 12 (.load true 8 (.t 4)),
E 13 (.callf 149 [(.t 12)]),
Q 14 (.un .not (.t 13))]) (
.cond (.t 14) (
.seq (
.region [Q 2 (.mov (cb false))]) (
.ret)) (
.skip))))) (
.region [Q 15 (.bin .add .scalar (.t 8) (ci 1)),
V 8 15]))))))) (
.seq (
.region [Q 16 (.faddr 0 (.t 1)),
Q 17 (.load false 1 (.t 16)),
Q 18 (.bin .geq .scalar (.t 17) (ci 1)),
V 19 18,
G 20 (.faddr 0 (.t 1)) 19 true,
G 21 (.load false 1 (.t 20)) 19 true,
G 22 (.bin .leq .scalar (.t 21) (ci 1099511627776)) 19 true,
Q 23 (.pick (.t 19) (.t 22) (cb false)),
V 24 23,
G 25 (.faddr 1 (.t 1)) 24 true,
G 26 (.load false 1 (.t 25)) 24 true,
G 27 (.bin .geq .scalar (.t 26) (ci 0)) 24 true,
Q 28 (.pick (.t 24) (.t 27) (cb false)),
V 29 28,
G 30 (.faddr 1 (.t 1)) 29 true,
G 31 (.load false 1 (.t 30)) 29 true,
G 32 (.bin .lss .scalar (.t 31) (ci 1099511627776)) 29 true,
Q 33 (.pick (.t 29) (.t 32) (cb false)),
V 34 33,
G 35 (.faddr 2 (.t 1)) 34 true,
G 36 (.load false 1 (.t 35)) 34 true,
G 37 (.len .sl (.t 36)) 34 true,
G 38 (.bin .leq .scalar (.t 37) (ci 100)) 34 true,
Q 39 (.pick (.t 34) (.t 38) (cb false)),
V 2 39]) (
.ret)))
def a96 : AFunc := ⟨c96, [.tmp 2], true⟩
def c97 : ACode :=
.seq (
.region [M 3 (.box 36 3 (.t 1)),
Q 4 (.mov (ci 0))]) (
.seq (
.draw [W 0 7 0 0,
D 1 8 (.nilck (.t 7)) 1,
D 2 9 (.faddr 0 (.t 8)) 3,
D 3 10 (.load false 1 (.t 9)) 7,
D 4 11 (.nilck (.t 10)) 15,
D 5 12 (.faddr 3 (.t 11)) 31,
D 6 13 (.load false 1 (.t 12)) 63,
D 7 14 (.faddr 0 (.t 3)) 0,
D 8 15 (.load false 1 (.t 14)) 128,
D 9 16 (.lookup .str (.one (dc (.nilp))) false (.t 13) (.t 15)) 511,
W 10 5 16 1023]) (
.seq (
.region [Q 17 (.faddr 1 (.t 3)),
Q 18 (.load false 1 (.t 17)),
E 19 (.append 185 3 32 (.c (.one (dc (.sl [] true)))) (.t 18)),
Q 20 (.faddr 1 (.t 3)),
S 1 20 19]) (
.seq (
.draw [W 0 21 0 0,
D 1 22 (.nilck (.t 21)) 1,
D 2 23 (.faddr 1 (.t 22)) 3,
D 3 24 (.load false 1 (.t 23)) 7,
D 4 25 (.load true 3 (.t 3)) 0,
D 5 26 (.build zl12 [(0, 1, (.t 24)), (1, 3, (.t 25))]) 31,
⟨6, ⟨some 6, .m (.alloc 102 4 zl12), none, 0⟩⟩,
⟨7, ⟨none, .e (.store 4 (.t 6) (.t 26)), none, 127⟩⟩]) (
.seq (
.block 0 (
.seq (
.region [V 38 5,
Q 39 (.bin .eql .ptr (.t 38) (.c (.one (dc (.nilp))))),
V 37 39]) (
.cond (.t 37) (
.draw [W 0 40 0 0,
D 1 41 (.nilck (.t 40)) 1,
D 2 42 (.faddr 0 (.t 41)) 3,
D 3 43 (.load false 1 (.t 42)) 7,
D 4 44 (.nilck (.t 43)) 15,
D 5 45 (.faddr 3 (.t 44)) 31,
D 6 46 (.load false 1 (.t 45)) 63,
D 7 47 (.faddr 0 (.t 3)) 0,
D 8 48 (.load false 1 (.t 47)) 128,
D 9 49 (.load true 4 (.t 6)) 0,
⟨10, ⟨some 50, .m (.bslice 102 4 1 zl12 [(0, 4, (.t 49))]), none, 512⟩⟩,
⟨11, ⟨some 51, .m (.mkmap .str), none, 0⟩⟩,
D 12 52 (.build [dc (.sl [] true), dc (.nilm)] [(0, 1, (.t 50)), (1, 1, (.t 51))]) 3584,
⟨13, ⟨some 53, .m (.box 92 2 (.t 52)), none, 7680⟩⟩,
⟨14, ⟨none, .e (.mapup .str (.t 46) (.t 48) (.t 53)), none, 16383⟩⟩]) (
.seq (
.draw [W 0 55 5 0,
D 2 57 (.load true 3 (.t 3)) 0,
⟨1, ⟨some 56, .e (.callf 46 [(.t 55)]), none, 1⟩⟩,
⟨3, ⟨some 58, .e (.callf 150 [(.t 56), (.t 57)]), none, 7⟩⟩,
D 4 59 (.un .not (.t 58)) 15,
W 5 54 59 31]) (
.cond (.t 54) (
.seq (
.region [Q 4 (.mov (ci 11))]) (
.ret)) (
.seq (
.draw [W 0 61 5 0,
D 1 62 (.nilck (.t 61)) 1,
D 2 63 (.faddr 0 (.t 62)) 3,
D 3 64 (.load false 1 (.t 63)) 7,
W 4 65 5 0,
D 5 66 (.nilck (.t 65)) 16,
D 6 67 (.faddr 0 (.t 66)) 48,
D 7 68 (.load false 1 (.t 67)) 112,
D 8 69 (.len .sl (.t 68)) 240,
D 9 70 (.bin .sub .scalar (.t 69) (ci 1)) 496,
D 10 71 (.iaddr 4 none (.t 64) (.t 70)) 1023,
D 11 72 (.faddr 0 (.t 71)) 2047,
D 12 73 (.load false 1 (.t 72)) 4095,
W 13 74 0 0,
D 14 75 (.nilck (.t 74)) 8192,
D 15 76 (.faddr 1 (.t 75)) 24576,
D 16 77 (.load false 1 (.t 76)) 57344,
D 17 78 (.bin .eql .scalar (.t 73) (.t 77)) 131071,
W 18 60 78 262143]) (
.cond (.t 60) (
.draw [W 0 79 5 0,
D 1 80 (.nilck (.t 79)) 1,
D 2 81 (.faddr 0 (.t 80)) 3,
D 3 82 (.load false 1 (.t 81)) 7,
W 4 83 5 0,
D 5 84 (.nilck (.t 83)) 16,
D 6 85 (.faddr 0 (.t 84)) 48,
D 7 86 (.load false 1 (.t 85)) 112,
D 8 87 (.len .sl (.t 86)) 240,
D 9 88 (.bin .sub .scalar (.t 87) (ci 1)) 496,
D 10 89 (.load true 4 (.t 6)) 0,
D 11 90 (.iaddr 4 none (.t 82) (.t 88)) 2047,
⟨12, ⟨none, .e (.store 4 (.t 90) (.t 89)), none, 4095⟩⟩]) (
.draw [W 0 27 5 0,
W 1 28 5 0,
D 2 29 (.nilck (.t 28)) 2,
D 3 30 (.faddr 0 (.t 29)) 6,
D 4 31 (.load false 1 (.t 30)) 14,
D 5 32 (.load true 4 (.t 6)) 0,
⟨6, ⟨some 33, .m (.bslice 102 4 1 zl12 [(0, 4, (.t 32))]), none, 32⟩⟩,
⟨7, ⟨some 34, .e (.append 102 4 56 (.t 31) (.t 33)), none, 126⟩⟩,
D 8 35 (.nilck (.t 27)) 255,
D 9 36 (.faddr 0 (.t 35)) 511,
⟨10, ⟨none, .e (.store 1 (.t 36) (.t 34)), none, 1023⟩⟩])))))))) (
.seq (
.region [Q 4 (.mov (ci 0))]) (
.ret))))))
def a97 : AFunc := ⟨c97, [.tmp 4], false⟩
def c98 : ACode :=
.seq (
.region [M 2 (.box 36 3 (.t 0)),
M 3 (.box 116 8 (.t 1)),
Q 4 (.mov (cs [])),
Q 5 (.mov (ci 0))]) (
.seq (
.seq (
.region [Q 7 (.faddr 0 (.t 3)),
Q 8 (.load false 1 (.t 7)),
Q 9 (.bin .eql .scalar (.t 8) (ci 2))]) (
.cond (.t 9) (
.seq (
.seq (
.region [Q 10 (.load true 3 (.t 2)),
Q 11 (.faddr 2 (.t 3)),
Q 12 (.load false 1 (.t 11)),
E 13 (.callf 151 [(.t 10), (.t 12)]),
Q 14 (.un .not (.t 13))]) (
.cond (.t 14) (
.seq (
.region [Q 4 (.mov (cs [])),
Q 5 (.mov (ci 10))]) (
.ret)) (
.skip))) (
.seq (
.region [Q 15 (.faddr 2 (.t 3)),
Q 16 (.load false 1 (.t 15)),
E 17 (.callf 152 [(.t 16)]),
V 4 17,
Q 5 (.mov (ci 0))]) (
.ret))) (
.skip))) (
.seq (
.region [Q 18 (.load true 3 (.t 2)),
Q 19 (.faddr 2 (.t 3)),
Q 20 (.load false 1 (.t 19)),
E 21 (.callf 145 [(.t 18), (.t 20)]),
V 6 21]) (
.seq (
.region [Q 22 (.load true 3 (.t 2)),
Q 23 (.faddr 2 (.t 3)),
Q 24 (.load false 1 (.t 23)),
E 25 (.callf 153 [(.t 22), (.t 24)]),
E 26 (.callf 152 [(.t 25)]),
V 27 6,
V 4 26,
V 5 27]) (
.ret))))
def a98 : AFunc := ⟨c98, [.tmp 4, .tmp 5], true⟩
def c99 : ACode :=
.seq (
.region [M 4 (.box 26 2 (.t 1)),
Q 6 (.mov (.c (.one (dc (.sl [] true)))))]) (
.seq (
.seq (
.region [V 9 0,
E 10 (.callf 101 [(.t 9)]),
Q 11 (.un .not (.t 10)),
V 12 11,
G 13 (.load true 2 (.t 4)) 12 false,
⟨some 14, .e (.callf 45 [(.t 13)]), some (12, false), 0⟩,
G 15 (.un .not (.t 14)) 12 false,
Q 16 (.pick (.t 12) (cb true) (.t 15)),
V 17 16,
G 18 (.mov (.t 2)) 17 false,
⟨some 19, .e (.callf 154 [(.t 18)]), some (17, false), 0⟩,
G 20 (.un .not (.t 19)) 17 false,
Q 21 (.pick (.t 17) (cb true) (.t 20))]) (
.cond (.t 21) (
.seq (
.region [V 22 0,
E 23 (.callf 147 [(.t 22)]),
V 6 23]) (
.ret)) (
.skip))) (
.seq (
.region [V 24 0,
Q 25 (.load true 2 (.t 4)),
E 26 (.callf 100 [(.t 24), (.t 25)]),
V 0 26]) (
.seq (
.region [Q 7 (.mov (ci 0))]) (
.seq (
.block 0 (
.loop (
.seq (
.seq (
.draw [W 0 27 7 0,
W 1 28 0 0,
D 2 29 (.len .sl (.t 28)) 2,
D 3 30 (.bin .lss .scalar (.t 27) (.t 29)) 7,
W 4 31 30 15,
⟨5, ⟨some 32, .q (.mov (.t 0)), some (31, true), 31⟩⟩,
⟨6, ⟨some 33, .q (.mov (.t 7)), some (31, true), 31⟩⟩,
⟨7, ⟨some 34, .q (.iaddr 3 none (.t 32) (.t 33)), some (31, true), 127⟩⟩,
⟨8, ⟨some 35, .q (.faddr 0 (.t 34)), some (31, true), 255⟩⟩,
⟨9, ⟨some 36, .q (.faddr 0 (.t 35)), some (31, true), 511⟩⟩,
⟨10, ⟨some 37, .q (.load false 1 (.t 36)), some (31, true), 1023⟩⟩,
⟨11, ⟨some 38, .q (.faddr 0 (.t 4)), some (31, true), 31⟩⟩,
⟨12, ⟨some 39, .q (.load false 1 (.t 38)), some (31, true), 2079⟩⟩,
⟨13, ⟨some 40, .q (.bin .lss .scalar (.t 37) (.t 39)), some (31, true), 8191⟩⟩,
D 14 41 (.pick (.t 31) (.t 40) (cb false)) 16383]) (
.cond (.t 41) (
.skip) (
.exit 0))) (
.block 1 (
.region [V 42 7,
Q 43 (.bin .add .scalar (.t 42) (ci 1)),
V 7 43]))))) (
.seq (
.draw [W 0 44 0 0,
W 1 45 7 0,
D 2 46 (.slice 3 (.t 44) none (some (.t 45)) none) 3,
D 4 48 (.load true 2 (.t 4)) 0,
W 5 49 2 0,
⟨3, ⟨some 47, .e (.callf 147 [(.t 46)]), none, 7⟩⟩,
⟨6, ⟨some 50, .e (.append 128 4 40 (.c (.one (dc (.sl [] true)))) (.t 49)), none, 47⟩⟩,
D 7 51 (.build zl6 [(0, 2, (.t 48)), (2, 1, (.t 50))]) 127,
⟨8, ⟨some 52, .m (.bslice 98 3 1 zl6 [(0, 3, (.t 51))]), none, 255⟩⟩,
⟨9, ⟨some 53, .e (.append 98 3 40 (.t 47) (.t 52)), none, 511⟩⟩,
W 10 8 53 1023]) (
.seq (
.region [V 54 8,
V 55 0,
V 56 7,
Q 57 (.slice 3 (.t 55) (some (.t 56)) none none),
E 58 (.callf 147 [(.t 57)]),
E 59 (.append 98 3 40 (.t 54) (.t 58)),
V 6 59]) (
.ret)))))))
def a99 : AFunc := ⟨c99, [.tmp 6], true⟩
def c100 : ACode :=
.seq (
.region [M 3 (.box 26 2 (.t 1)),
Q 4 (.mov (.c (.one (dc (.sl [] true)))))]) (
.seq (
.region [V 10 0,
E 11 (.callf 147 [(.t 10)]),
V 0 11]) (
.seq (
.seq (
.region [V 12 0,
E 13 (.callf 101 [(.t 12)]),
Q 14 (.un .not (.t 13)),
V 15 14,
G 16 (.load true 2 (.t 3)) 15 false,
⟨some 17, .e (.callf 45 [(.t 16)]), some (15, false), 0⟩,
G 18 (.un .not (.t 17)) 15 false,
Q 19 (.pick (.t 15) (cb true) (.t 18))]) (
.cond (.t 19) (
.seq (
.region [V 20 0,
V 4 20]) (
.ret)) (
.skip))) (
.seq (
.region [Q 5 (.mov (.c (.one (dc (.sl [] true)))))]) (
.seq (
.seq (
.region [V 21 0,
Q 22 (.len .sl (.t 21)),
Q 23 (.mov (ci 0))]) (
.block 0 (
.loop (
.seq (
.region [Q 24 (.bin .lss .scalar (.t 23) (.t 22))]) (
.seq (
.cond (.t 24) (
.skip) (
.exit 0)) (
.seq (
.block 1 (
.seq (
.region [Q 25 (.iaddr 3 none (.t 21) (.t 23)),
Q 26 (.load true 3 (.t 25)),
M 7 (.alloc 98 3 zl6),
S 3 7 26]) (
.seq (
.region [Q 27 (.faddr 0 (.t 7)),
Q 28 (.load true 2 (.t 27)),
Q 29 (.load true 2 (.t 3)),
E 30 (.callf 155 [(.t 28), (.t 29)]),
Q 31 (.len .sl (.t 30)),
Q 32 (.mov (ci 0))]) (
.block 2 (
.loop (
.seq (
.region [Q 33 (.bin .lss .scalar (.t 32) (.t 31))]) (
.seq (
.cond (.t 33) (
.skip) (
.exit 2)) (
.seq (
.block 3 (
.seq (
.region [Q 34 (.iaddr 2 none (.t 30) (.t 32)),
Q 35 (.load true 2 (.t 34)),
M 9 (.alloc 26 2 zl7),
S 2 9 35]) (
.region [V 36 5,
Q 37 (.load true 2 (.t 9)),
Q 38 (.faddr 2 (.t 7)),
Q 39 (.load false 1 (.t 38)),
Q 40 (.build zl6 [(0, 2, (.t 37)), (2, 1, (.t 39))]),
M 41 (.bslice 98 3 1 zl6 [(0, 3, (.t 40))]),
E 42 (.append 98 3 40 (.t 36) (.t 41)),
V 5 42]))) (
.region [Q 43 (.bin .add .scalar (.t 32) (ci 1)),
V 32 43]))))))))) (
.region [Q 44 (.bin .add .scalar (.t 23) (ci 1)),
V 23 44]))))))) (
.seq (
.region [V 45 5,
E 46 (.callf 147 [(.t 45)]),
V 4 46]) (
.ret))))))
def a100 : AFunc := ⟨c100, [.tmp 4], true⟩
def c101 : ACode :=
.seq (
.region [Q 2 (.mov (cb false))]) (
.seq (
.region [Q 3 (.mov (ci 0))]) (
.seq (
.seq (
.region [V 6 0,
Q 7 (.len .sl (.t 6)),
Q 8 (.mov (ci 0))]) (
.block 0 (
.loop (
.seq (
.region [Q 9 (.bin .lss .scalar (.t 8) (.t 7))]) (
.seq (
.cond (.t 9) (
.skip) (
.exit 0)) (
.seq (
.block 1 (
.seq (
.region [Q 10 (.iaddr 3 none (.t 6) (.t 8)),
Q 11 (.load true 3 (.t 10)),
M 5 (.alloc 98 3 zl6),
S 3 5 11]) (
.seq (
.seq (
.region [Q 12 (.faddr 0 (.t 5)),
Q 13 (.load true 2 (.t 12)),
E 14 (.callf 45 [(.t 13)]),
Q 15 (.un .not (.t 14)),
V 16 15,
G 17 (.faddr 2 (.t 5)) 16 false,
G 18 (.load false 1 (.t 17)) 16 false,
⟨some 19, .e (.callf 154 [(.t 18)]), some (16, false), 0⟩,
G 20 (.un .not (.t 19)) 16 false,
Q 21 (.pick (.t 16) (cb true) (.t 20)),
V 22 21,
G 23 (.faddr 0 (.t 5)) 22 false,
G 24 (.faddr 0 (.t 23)) 22 false,
G 25 (.load false 1 (.t 24)) 22 false,
G 26 (.mov (.t 3)) 22 false,
G 27 (.bin .lss .scalar (.t 25) (.t 26)) 22 false,
Q 28 (.pick (.t 22) (cb true) (.t 27))]) (
.cond (.t 28) (
.seq (
.region [Q 2 (.mov (cb false))]) (
.ret)) (
.skip))) (
.region [Q 29 (.faddr 0 (.t 5)),
Q 30 (.faddr 1 (.t 29)),
Q 31 (.load false 1 (.t 30)),
V 3 31])))) (
.region [Q 32 (.bin .add .scalar (.t 8) (ci 1)),
V 8 32]))))))) (
.seq (
.region [Q 2 (.mov (cb true))]) (
.ret))))
def a101 : AFunc := ⟨c101, [.tmp 2], true⟩
def c102 : ACode :=
.seq (
.region [Q 2 (.mov (ci 0))]) (
.seq (
.seq (
.region [V 6 0,
E 7 (.callf 85 [(.t 6)]),
Q 8 (.un .not (.t 7))]) (
.cond (.t 8) (
.seq (
.region [Q 2 (.mov (ci 0))]) (
.ret)) (
.skip))) (
.seq (
.region [Q 3 (.mov (ci 0))]) (
.seq (
.seq (
.region [V 9 0,
Q 10 (.len .sl (.t 9)),
Q 11 (.mov (ci 0))]) (
.block 0 (
.loop (
.seq (
.region [Q 12 (.bin .lss .scalar (.t 11) (.t 10))]) (
.seq (
.cond (.t 12) (
.skip) (
.exit 0)) (
.seq (
.block 1 (
.seq (
.region [Q 13 (.iaddr 5 none (.t 9) (.t 11)),
Q 14 (.load true 5 (.t 13)),
M 5 (.alloc 105 5 zl2),
S 5 5 14]) (
.seq (
.region [V 15 3,
Q 16 (.faddr 0 (.t 5)),
Q 17 (.faddr 0 (.t 16)),
Q 18 (.load false 1 (.t 17)),
Q 19 (.mnmx true (.t 15) (.t 18)),
V 3 19]) (
.seq (
.region [Q 20 (.load true 5 (.t 5)),
E 21 (.callf 105 [(.t 20)]),
Q 22 (.un .not (.t 21))]) (
.cond (.t 22) (
.region [V 23 3,
Q 24 (.faddr 0 (.t 5)),
Q 25 (.faddr 1 (.t 24)),
Q 26 (.load false 1 (.t 25)),
Q 27 (.mnmx true (.t 23) (.t 26)),
V 3 27]) (
.skip)))))) (
.region [Q 28 (.bin .add .scalar (.t 11) (ci 1)),
V 11 28]))))))) (
.seq (
.region [V 29 3,
V 2 29]) (
.ret)))))
def a102 : AFunc := ⟨c102, [.tmp 2], true⟩
def c103 : ACode :=
.seq (
.region [Q 4 (.mov (.c (.one (dc (.sl [] true))))),
Q 5 (.mov (.c (.one (dc (.sl [] true)))))]) (
.seq (
.seq (
.region [V 6 0,
E 7 (.callf 101 [(.t 6)]),
Q 8 (.un .not (.t 7)),
V 9 8,
G 10 (.mov (.t 1)) 9 false,
⟨some 11, .e (.callf 101 [(.t 10)]), some (9, false), 0⟩,
G 12 (.un .not (.t 11)) 9 false,
Q 13 (.pick (.t 9) (cb true) (.t 12))]) (
.cond (.t 13) (
.seq (
.region [Q 4 (.mov (.c (.one (dc (.sl [] true))))),
Q 5 (.mov (.c (.one (dc (.sl [] true)))))]) (
.ret)) (
.skip))) (
.seq (
.region [V 14 0,
V 15 1,
E 16 (.callf 156 [(.t 14), (.t 15)]),
V 17 1,
V 18 0,
E 19 (.callf 156 [(.t 17), (.t 18)]),
V 4 16,
V 5 19]) (
.ret)))
def a103 : AFunc := ⟨c103, [.tmp 4, .tmp 5], true⟩
def c104 : ACode :=
.seq (
.region [M 2 (.box 105 5 (.t 0)),
Q 3 (.mov (cb false))]) (
.seq (
.seq (
.region [Q 6 (.load false 1 (.t 1)),
Q 7 (.len .sl (.t 6)),
Q 8 (.mov (ci 0))]) (
.block 0 (
.loop (
.seq (
.region [Q 9 (.bin .lss .scalar (.t 8) (.t 7))]) (
.seq (
.cond (.t 9) (
.skip) (
.exit 0)) (
.seq (
.block 1 (
.seq (
.region [Q 10 (.iaddr 3 none (.t 6) (.t 8)),
Q 11 (.load true 3 (.t 10)),
M 5 (.alloc 98 3 zl6),
S 3 5 11]) (
.seq (
.region [Q 12 (.load true 5 (.t 2)),
E 13 (.callf 105 [(.t 12)]),
V 14 13,
G 15 (.faddr 2 (.t 2)) 14 true,
G 16 (.load true 3 (.t 15)) 14 true,
G 17 (.load true 3 (.t 5)) 14 true,
⟨some 18, .e (.callf 106 [(.t 16), (.t 17)]), some (14, true), 0⟩,
Q 19 (.pick (.t 14) (.t 18) (cb false))]) (
.cond (.t 19) (
.seq (
.region [Q 3 (.mov (cb true))]) (
.ret)) (
.skip))))) (
.region [Q 20 (.bin .add .scalar (.t 8) (ci 1)),
V 8 20]))))))) (
.seq (
.region [Q 3 (.mov (cb false))]) (
.ret)))
def a104 : AFunc := ⟨c104, [.tmp 3], true⟩
def c105 : ACode :=
.seq (
.region [M 1 (.box 105 5 (.t 0)),
Q 2 (.mov (cb false))]) (
.seq (
.region [Q 3 (.faddr 0 (.t 1)),
Q 4 (.faddr 1 (.t 3)),
Q 5 (.load false 1 (.t 4)),
Q 6 (.bin .eql .scalar (.t 5) (ci 1099511627776)),
V 2 6]) (
.ret))
def a105 : AFunc := ⟨c105, [.tmp 2], true⟩
def c106 : ACode :=
.seq (
.region [M 2 (.box 98 3 (.t 0)),
M 3 (.box 98 3 (.t 1)),
Q 4 (.mov (cb false))]) (
.seq (
.region [Q 5 (.load true 3 (.t 2)),
M 6 (.bslice 98 3 1 zl6 [(0, 3, (.t 5))]),
Q 7 (.load true 3 (.t 3)),
M 8 (.bslice 98 3 1 zl6 [(0, 3, (.t 7))]),
E 9 (.callf 91 [(.t 6), (.t 8)]),
V 4 9]) (
.ret))
def a106 : AFunc := ⟨c106, [.tmp 4], true⟩
def c107 : ACode :=
.seq (
.region [M 3 (.box 105 5 (.t 0)),
Q 4 (.mov (cb false))]) (
.seq (
.region [Q 5 (.load false 1 (.t 1)),
Q 6 (.load true 5 (.t 3)),
E 7 (.callv (.t 5) [(.t 6)]),
Q 8 (.un .not (.t 7)),
V 9 8,
G 10 (.faddr 0 (.t 3)) 9 false,
G 11 (.faddr 0 (.t 10)) 9 false,
G 12 (.load false 1 (.t 11)) 9 false,
G 13 (.load false 1 (.t 2)) 9 false,
G 14 (.bin .lss .scalar (.t 12) (.t 13)) 9 false,
Q 15 (.pick (.t 9) (cb true) (.t 14)),
V 4 15]) (
.ret))
def a107 : AFunc := ⟨c107, [.tmp 4], true⟩
def c108 : ACode :=
.seq (
.region [V 4 0,
Q 5 (.len .sl (.t 4)),
Q 6 (.mov (ci 0))]) (
.block 0 (
.loop (
.seq (
.region [Q 7 (.bin .lss .scalar (.t 6) (.t 5))]) (
.seq (
.cond (.t 7) (
.skip) (
.exit 0)) (
.seq (
.block 1 (
.seq (
.region [V 8 6,
V 2 8]) (
.seq (
.region [V 9 2,
V 3 9]) (
.block 2 (
.loop (
.seq (
.seq (
.draw [W 0 10 3 0,
D 1 11 (.bin .gtr .scalar (.t 10) (ci 0)) 1,
W 2 12 11 3,
⟨3, ⟨some 13, .q (.mov (.t 0)), some (12, true), 7⟩⟩,
⟨4, ⟨some 14, .q (.mov (.t 3)), some (12, true), 7⟩⟩,
⟨5, ⟨some 15, .q (.iaddr 5 none (.t 13) (.t 14)), some (12, true), 31⟩⟩,
⟨6, ⟨some 16, .q (.load true 5 (.t 15)), some (12, true), 63⟩⟩,
⟨7, ⟨some 17, .q (.mov (.t 0)), some (12, true), 7⟩⟩,
⟨8, ⟨some 18, .q (.mov (.t 3)), some (12, true), 7⟩⟩,
⟨9, ⟨some 19, .q (.bin .sub .scalar (.t 18) (ci 1)), some (12, true), 263⟩⟩,
⟨10, ⟨some 20, .q (.iaddr 5 none (.t 17) (.t 19)), some (12, true), 903⟩⟩,
⟨11, ⟨some 21, .q (.load true 5 (.t 20)), some (12, true), 1927⟩⟩,
⟨12, ⟨some 22, .e (.callf 142 [(.t 16), (.t 21)]), some (12, true), 4095⟩⟩,
D 13 23 (.pick (.t 12) (.t 22) (cb false)) 8191]) (
.cond (.t 23) (
.skip) (
.exit 2))) (
.seq (
.block 3 (
.draw [W 0 26 0 0,
W 1 27 3 0,
W 2 28 0 0,
W 3 29 3 0,
D 4 30 (.bin .sub .scalar (.t 29) (ci 1)) 8,
W 5 31 0 0,
W 6 32 3 0,
D 7 33 (.bin .sub .scalar (.t 32) (ci 1)) 64,
D 8 34 (.iaddr 5 none (.t 31) (.t 33)) 224,
D 9 35 (.load true 5 (.t 34)) 480,
W 10 36 0 0,
W 11 37 3 0,
D 12 38 (.iaddr 5 none (.t 36) (.t 37)) 3072,
D 13 39 (.load true 5 (.t 38)) 7168,
D 14 40 (.iaddr 5 none (.t 26) (.t 27)) 16355,
⟨15, ⟨none, .e (.store 5 (.t 40) (.t 35)), none, 32739⟩⟩,
D 16 41 (.iaddr 5 none (.t 28) (.t 30)) 65535,
⟨17, ⟨none, .e (.store 5 (.t 41) (.t 39)), none, 131071⟩⟩])) (
.region [V 24 3,
Q 25 (.bin .sub .scalar (.t 24) (ci 1)),
V 3 25])))))))) (
.region [Q 42 (.bin .add .scalar (.t 6) (ci 1)),
V 6 42]))))))
def a108 : AFunc := ⟨c108, [], false⟩
def c110 : ACode :=
.seq (
.region [Q 2 (.mov (cs []))]) (
.seq (
.region [Q 3 (.mov (cs []))]) (
.seq (
.block 0 (
.loop (
.seq (
.seq (
.region [V 4 0,
Q 5 (.bin .geq .scalar (.t 4) (.c (.one (dc (.int .u64 128)))))]) (
.cond (.t 5) (
.skip) (
.exit 0))) (
.seq (
.block 1 (
.region [V 8 3,
V 9 0,
Q 10 (.bin .rem .scalar (.t 9) (.c (.one (dc (.int .u64 128))))),
Q 11 (.bin .add .scalar (.t 10) (.c (.one (dc (.int .u64 128))))),
E 12 (.callf 157 [(.t 11)]),
Q 13 (.bin .add .scalar (.t 8) (.t 12)),
V 3 13])) (
.region [V 6 0,
Q 7 (.bin .shr .scalar (.t 6) (.c (.one (dc (.int .u64 7))))),
V 0 7]))))) (
.seq (
.region [V 14 3,
V 15 0,
E 16 (.callf 157 [(.t 15)]),
Q 17 (.bin .add .scalar (.t 14) (.t 16)),
V 2 17]) (
.ret))))
def a110 : AFunc := ⟨c110, [.tmp 2], true⟩
def c111 : ACode :=
.seq (
.region [Q 2 (.mov (cs []))]) (
.seq (
.region [V 3 0,
Q 4 (.len .str (.t 3)),
Q 5 (.conv (.int .u64) (.t 4)),
E 6 (.callf 110 [(.t 5)]),
V 7 0,
Q 8 (.bin .add .scalar (.t 6) (.t 7)),
V 2 8]) (
.ret))
def a111 : AFunc := ⟨c111, [.tmp 2], true⟩
def c112 : ACode :=
.seq (
.region [M 1 (.box 36 3 (.t 0)),
Q 2 (.mov (cs []))]) (
.seq (
.seq (
.region [Q 7 (.load true 3 (.t 1)),
E 8 (.callf 144 [(.t 7)]),
Q 9 (.un .not (.t 8))]) (
.cond (.t 9) (
.seq (
.region [Q 2 (.mov (cs []))]) (
.ret)) (
.skip))) (
.seq (
.draw [D 0 10 (.faddr 0 (.t 1)) 0,
D 1 11 (.load false 1 (.t 10)) 1,
D 3 13 (.faddr 2 (.t 1)) 0,
D 4 14 (.load false 1 (.t 13)) 8,
D 5 15 (.conv (.int .u64) (.t 14)) 24,
D 8 18 (.faddr 1 (.t 1)) 0,
D 9 19 (.load false 1 (.t 18)) 256,
D 10 20 (.len .sl (.t 19)) 768,
D 11 21 (.conv (.int .u64) (.t 20)) 1792,
⟨2, ⟨some 12, .e (.callf 111 [(.t 11)]), none, 3⟩⟩,
⟨6, ⟨some 16, .e (.callf 110 [(.t 15)]), none, 63⟩⟩,
D 7 17 (.bin .add .scalar (.t 12) (.t 16)) 127,
⟨12, ⟨some 22, .e (.callf 110 [(.t 21)]), none, 3967⟩⟩,
D 13 23 (.bin .add .scalar (.t 17) (.t 22)) 8191,
W 14 3 23 16383]) (
.seq (
.seq (
.region [Q 24 (.faddr 1 (.t 1)),
Q 25 (.load false 1 (.t 24)),
Q 26 (.len .sl (.t 25)),
Q 27 (.mov (ci 0))]) (
.block 0 (
.loop (
.seq (
.region [Q 28 (.bin .lss .scalar (.t 27) (.t 26))]) (
.seq (
.cond (.t 28) (
.skip) (
.exit 0)) (
.seq (
.block 1 (
.seq (
.region [Q 29 (.iaddr 3 none (.t 25) (.t 27)),
Q 30 (.load true 3 (.t 29)),
M 5 (.alloc 185 3 zl26),
S 3 5 30]) (
.seq (
.region [Q 6 (.mov (.c (.one (dc (.int .u64 0)))))]) (
.seq (
.seq (
.region [Q 31 (.faddr 2 (.t 5)),
Q 32 (.load false 1 (.t 31))]) (
.cond (.t 32) (
.region [Q 6 (.mov (.c (.one (dc (.int .u64 1)))))]) (
.skip))) (
.draw [W 0 33 3 0,
D 1 34 (.faddr 0 (.t 5)) 0,
D 2 35 (.load false 1 (.t 34)) 2,
D 4 37 (.faddr 1 (.t 5)) 0,
D 5 38 (.load false 1 (.t 37)) 16,
D 6 39 (.conv (.int .u64) (.t 38)) 48,
W 9 42 6 0,
⟨3, ⟨some 36, .e (.callf 111 [(.t 35)]), none, 6⟩⟩,
⟨7, ⟨some 40, .e (.callf 110 [(.t 39)]), none, 126⟩⟩,
D 8 41 (.bin .add .scalar (.t 36) (.t 40)) 254,
⟨10, ⟨some 43, .e (.callf 110 [(.t 42)]), none, 766⟩⟩,
D 11 44 (.bin .add .scalar (.t 41) (.t 43)) 2046,
D 12 45 (.bin .add .scalar (.t 33) (.t 44)) 4095,
W 13 3 45 8191]))))) (
.region [Q 46 (.bin .add .scalar (.t 27) (ci 1)),
V 27 46]))))))) (
.seq (
.region [V 47 3,
V 2 47]) (
.ret)))))
def a112 : AFunc := ⟨c112, [.tmp 2], true⟩
def c113 : ACode :=
.seq (
.region [Q 2 (.mov (cs []))]) (
.seq (
.region [V 6 0,
Q 7 (.len .sl (.t 6)),
Q 8 (.conv (.int .u64) (.t 7)),
E 9 (.callf 110 [(.t 8)]),
V 3 9]) (
.seq (
.seq (
.region [V 10 0,
Q 11 (.len .sl (.t 10)),
Q 12 (.mov (ci 0))]) (
.block 0 (
.loop (
.seq (
.region [Q 13 (.bin .lss .scalar (.t 12) (.t 11))]) (
.seq (
.cond (.t 13) (
.skip) (
.exit 0)) (
.seq (
.block 1 (
.seq (
.region [Q 14 (.iaddr 4 none (.t 10) (.t 12)),
Q 15 (.load true 4 (.t 14)),
M 5 (.alloc 128 4 zl5),
S 4 5 15]) (
.seq (
.seq (
.region [Q 16 (.load true 4 (.t 5)),
E 17 (.callf 158 [(.t 16)]),
Q 18 (.un .not (.t 17))]) (
.cond (.t 18) (
.seq (
.region [Q 2 (.mov (cs []))]) (
.ret)) (
.skip))) (
.region [V 19 3,
Q 20 (.load true 4 (.t 5)),
E 21 (.callf 159 [(.t 20)]),
Q 22 (.bin .add .scalar (.t 19) (.t 21)),
V 3 22])))) (
.region [Q 23 (.bin .add .scalar (.t 12) (ci 1)),
V 12 23]))))))) (
.seq (
.region [V 24 3,
V 2 24]) (
.ret))))
def a113 : AFunc := ⟨c113, [.tmp 2], true⟩
def c114 : ACode :=
.seq (
.region [Q 2 (.mov (.c (.one (dc (.nilp)))))]) (
.seq (
.region [V 3 0,
Q 4 (.build zl28 [(0, 1, (.t 3))]),
M 5 (.box 243 3 (.t 4)),
V 2 5]) (
.ret))
def a114 : AFunc := ⟨c114, [.tmp 2], false⟩
def c115 : ACode :=
.seq (
.region [M 1 (.box 189 1 (.t 0)),
Q 2 (.mov (ci 0))]) (
.seq (
.region [Q 3 (.faddr 0 (.t 1)),
Q 4 (.load false 1 (.t 3)),
E 5 (.callf 160 [(.t 4)]),
Q 6 (.mnmx false (.t 5) (.c (.one (dc (.int .u64 1099511627777))))),
Q 7 (.conv (.int .i64) (.t 6)),
V 2 7]) (
.ret))
def a115 : AFunc := ⟨c115, [.tmp 2], false⟩
def c116 : ACode :=
.seq (
.region [M 2 (.box 189 1 (.t 0))]) (
.seq (
.region [Q 5 (.faddr 0 (.t 2)),
Q 6 (.load false 1 (.t 5)),
E 7 (.callf 160 [(.t 6)]),
V 4 7]) (
.block 0 (
.loop (
.seq (
.seq (
.region [V 8 4,
Q 9 (.bin .gtr .scalar (.t 8) (.c (.one (dc (.int .u64 0))))),
V 10 9,
G 11 (.faddr 0 (.t 2)) 10 true,
G 12 (.load false 1 (.t 11)) 10 true,
⟨some 13, .e (.callf 119 [(.t 12)]), some (10, true), 0⟩,
G 14 (.bin .eql .scalar (.t 13) (ci 0)) 10 true,
Q 15 (.pick (.t 10) (.t 14) (cb false))]) (
.cond (.t 15) (
.skip) (
.exit 0))) (
.seq (
.block 1 (
.seq (
.region [V 18 1,
E 19 (.callv (.t 18) []),
Q 20 (.un .not (.t 19))]) (
.cond (.t 20) (
.ret) (
.skip)))) (
.region [V 16 4,
Q 17 (.bin .sub .scalar (.t 16) (.c (.one (dc (.int .u64 1))))),
V 4 17]))))))
def a116 : AFunc := ⟨c116, [], false⟩
def c117 : ACode :=
.seq (
.region [M 1 (.box 189 1 (.t 0)),
Q 2 (.mov (.c (.one (dc (.nilp)))))]) (
.seq (
.region [M 8 (.mkmap .str),
Q 9 (.build [dc (.sl [] true), dc (.nilm)] [(1, 1, (.t 8))]),
M 10 (.box 92 2 (.t 9)),
M 3 (.alloc 93 1 [dc (.nilp)]),
S 1 3 10]) (
.seq (
.seq (
.region [Q 11 (.load true 1 (.t 1)),
Q 12 (.mkfn (.func 116) 116 [(.t 11)] [])]) (
.block 0 (
.rfunc (.t 12) [] (
.skip) (
.block 1 (
.seq (
.region [Q 13 (.load true 1 (.t 1)),
E 14 (.callf 115 [(.t 13)]),
Q 15 (.build zl12 [(0, 1, (.t 14))]),
M 4 (.alloc 102 4 zl12),
S 4 4 15]) (
.seq (
.region [Q 17 (.faddr 0 (.t 1)),
Q 18 (.load false 1 (.t 17)),
E 19 (.callf 162 [(.t 18)]),
E 20 (.callf 161 [(.t 19)]),
V 16 20,
Q 21 (.extract 0 (.t 16)),
Q 22 (.extract 1 (.t 16)),
Q 23 (.faddr 1 (.t 4)),
S 3 23 21]) (
.draw [D 0 24 (.load false 1 (.t 3)) 0,
D 1 25 (.load false 1 (.t 3)) 0,
D 2 26 (.nilck (.t 25)) 2,
D 3 27 (.faddr 0 (.t 26)) 6,
D 4 28 (.load false 1 (.t 27)) 14,
D 5 29 (.load true 4 (.t 4)) 0,
⟨6, ⟨some 30, .m (.bslice 102 4 1 zl12 [(0, 4, (.t 29))]), none, 32⟩⟩,
⟨7, ⟨some 31, .e (.append 102 4 56 (.t 28) (.t 30)), none, 126⟩⟩,
D 8 32 (.nilck (.t 24)) 255,
D 9 33 (.faddr 0 (.t 32)) 511,
⟨10, ⟨none, .e (.store 1 (.t 33) (.t 31)), none, 1023⟩⟩]))))))) (
.seq (
.seq (
.region [Q 34 (.load true 1 (.t 1)),
Q 35 (.mkfn (.func 116) 116 [(.t 34)] [])]) (
.block 2 (
.rfunc (.t 35) [] (
.skip) (
.block 3 (
.seq (
.region [Q 36 (.faddr 0 (.t 1)),
Q 37 (.load false 1 (.t 36)),
E 38 (.callf 162 [(.t 37)]),
V 5 38]) (
.seq (
.region [M 6 (.alloc 88 1 [dc (.sl [] true)])]) (
.seq (
.seq (
.region [Q 39 (.load true 1 (.t 1)),
Q 40 (.mkfn (.func 116) 116 [(.t 39)] [])]) (
.block 4 (
.rfunc (.t 40) [] (
.skip) (
.block 5 (
.seq (
.region [Q 41 (.load true 1 (.t 1)),
E 42 (.callf 163 [(.t 41)]),
Q 43 (.build zl2 [(0, 2, (.t 42))]),
M 7 (.alloc 105 5 zl2),
S 5 7 43]) (
.seq (
.region [Q 44 (.load true 1 (.t 1)),
E 45 (.callf 163 [(.t 44)]),
Q 46 (.faddr 2 (.t 7)),
Q 47 (.faddr 0 (.t 46)),
S 2 47 45]) (
.seq (
.region [Q 48 (.faddr 0 (.t 1)),
Q 49 (.load false 1 (.t 48)),
E 50 (.callf 164 [(.t 49)]),
Q 51 (.faddr 2 (.t 7)),
Q 52 (.faddr 2 (.t 51)),
S 1 52 50]) (
.region [Q 53 (.load false 1 (.t 6)),
Q 54 (.load true 5 (.t 7)),
M 55 (.bslice 105 5 1 zl2 [(0, 5, (.t 54))]),
E 56 (.append 105 5 56 (.t 53) (.t 55)),
S 1 6 56])))))))) (
.draw [D 0 57 (.load false 1 (.t 3)) 0,
D 1 58 (.nilck (.t 57)) 1,
D 2 59 (.faddr 1 (.t 58)) 3,
D 3 60 (.load false 1 (.t 59)) 7,
W 4 61 5 0,
D 5 62 (.load false 1 (.t 6)) 0,
⟨6, ⟨none, .e (.mapup .str (.t 60) (.t 61) (.t 62)), none, 63⟩⟩])))))))) (
.seq (
.region [Q 63 (.load false 1 (.t 3)),
V 2 63]) (
.ret)))))
def a117 : AFunc := ⟨c117, [.tmp 2], false⟩
def c118 : ACode :=
.seq (
.region [Q 4 (.mov (cb false))]) (
.seq (
.seq (
.region [V 13 0,
V 14 1,
E 15 (.callf 165 [(.t 13), (.t 14)]),
Q 16 (.un .not (.t 15))]) (
.cond (.t 16) (
.seq (
.region [Q 4 (.mov (cb false))]) (
.ret)) (
.skip))) (
.seq (
.seq (
.region [V 17 0,
Q 18 (.nilck (.t 17)),
Q 19 (.faddr 1 (.t 18)),
Q 20 (.load false 1 (.t 19)),
M 21 (.range false (.t 20))]) (
.block 0 (
.loop (
.seq (
.region [E 22 (.next false (.t 21)),
Q 23 (.extract 0 (.t 22))]) (
.seq (
.cond (.t 23) (
.skip) (
.exit 0)) (
.block 1 (
.seq (
.region [E 24 (.entry (.t 21)),
Q 25 (.extract 0 (.t 24)),
Q 26 (.extract 1 (.t 24)),
V 5 25,
V 6 26]) (
.seq (
.region [V 28 5,
E 29 (.callf 166 [(.t 28)]),
V 27 29,
Q 30 (.extract 0 (.t 27)),
Q 31 (.extract 1 (.t 27)),
V 7 30,
V 8 31]) (
.seq (
.seq (
.region [V 32 8,
Q 33 (.bin .neq .scalar (.t 32) (ci 0)),
V 34 33,
G 35 (.mov (.t 0)) 34 false,
⟨some 36, .e (.callf 46 [(.t 35)]), some (34, false), 0⟩,
G 37 (.mov (.t 7)) 34 false,
⟨some 38, .e (.callf 151 [(.t 36), (.t 37)]), some (34, false), 0⟩,
G 39 (.un .not (.t 38)) 34 false,
Q 40 (.pick (.t 34) (cb true) (.t 39)),
V 41 40,
G 42 (.mov (.t 6)) 41 false,
G 43 (.len .sl (.t 42)) 41 false,
G 44 (.bin .eql .scalar (.t 43) (ci 0)) 41 false,
Q 45 (.pick (.t 41) (cb true) (.t 44)),
V 46 45,
G 47 (.mov (.t 6)) 46 false,
⟨some 48, .e (.callf 85 [(.t 47)]), some (46, false), 0⟩,
G 49 (.un .not (.t 48)) 46 false,
Q 50 (.pick (.t 46) (cb true) (.t 49)),
V 51 50,
G 52 (.mov (.t 6)) 51 false,
⟨some 53, .e (.callf 102 [(.t 52)]), some (51, false), 0⟩,
G 54 (.mov (.t 1)) 51 false,
G 55 (.bin .gtr .scalar (.t 53) (.t 54)) 51 false,
Q 56 (.pick (.t 51) (cb true) (.t 55))]) (
.cond (.t 56) (
.seq (
.region [Q 4 (.mov (cb false))]) (
.ret)) (
.skip))) (
.seq (
.region [V 57 6,
Q 58 (.len .sl (.t 57)),
Q 59 (.mov (ci 0))]) (
.block 2 (
.loop (
.seq (
.region [Q 60 (.bin .lss .scalar (.t 59) (.t 58))]) (
.seq (
.cond (.t 60) (
.skip) (
.exit 2)) (
.seq (
.block 3 (
.seq (
.region [Q 61 (.iaddr 5 none (.t 57) (.t 59)),
Q 62 (.load true 5 (.t 61)),
M 10 (.alloc 105 5 zl2),
S 5 10 62]) (
.seq (
.draw [W 0 64 0 0,
D 2 66 (.faddr 2 (.t 10)) 0,
D 3 67 (.faddr 2 (.t 66)) 4,
D 4 68 (.load false 1 (.t 67)) 12,
⟨1, ⟨some 65, .e (.callf 46 [(.t 64)]), none, 1⟩⟩,
⟨5, ⟨some 69, .e (.callf 89 [(.t 65), (.t 68)]), none, 31⟩⟩,
W 6 63 69 63,
D 7 70 (.extract 0 (.t 63)) 127,
D 8 71 (.extract 1 (.t 63)) 127,
W 9 11 70 255,
W 10 12 71 1023]) (
.seq (
.region [V 72 12,
Q 73 (.bin .neq .scalar (.t 72) (ci 0))]) (
.cond (.t 73) (
.seq (
.region [Q 4 (.mov (cb false))]) (
.ret)) (
.skip)))))) (
.region [Q 74 (.bin .add .scalar (.t 59) (ci 1)),
V 59 74])))))))))))))))) (
.seq (
.region [Q 4 (.mov (cb true))]) (
.ret))))
def a118 : AFunc := ⟨c118, [.tmp 4], true⟩
def c119 : ACode :=
.seq (
.region [Q 2 (.mov (ci 0))]) (
.seq (
.seq (
.region [V 3 0,
Q 4 (.bin .eql .ptr (.t 3) (.c (.one (dc (.nilp)))))]) (
.cond (.t 4) (
.seq (
.region [Q 2 (.mov (ci 13))]) (
.ret)) (
.skip))) (
.seq (
.region [V 5 0,
Q 6 (.nilck (.t 5)),
Q 7 (.faddr 2 (.t 6)),
Q 8 (.load false 1 (.t 7)),
V 2 8]) (
.ret)))
def a119 : AFunc := ⟨c119, [.tmp 2], false⟩
def c120 : ACode :=
.seq (
.region [Q 2 (.mov (cs [])),
Q 3 (.mov (cb false))]) (
.seq (
.region [V 5 0,
Q 6 (.len .str (.t 5)),
Q 7 (.bin .sub .scalar (.t 6) (ci 4)),
V 4 7]) (
.seq (
.seq (
.region [V 8 4,
Q 9 (.bin .lss .scalar (.t 8) (ci 0)),
V 10 9,
G 11 (.mov (.t 0)) 10 false,
G 12 (.mov (.t 4)) 10 false,
G 13 (.sslice (.t 11) none (some (.t 12))) 10 false,
⟨some 14, .e (.callf 167 [(.t 13)]), some (10, false), 0⟩,
G 15 (.mov (.t 0)) 10 false,
G 16 (.bin .neq .scalar (.t 14) (.t 15)) 10 false,
Q 17 (.pick (.t 10) (cb true) (.t 16))]) (
.cond (.t 17) (
.seq (
.region [Q 2 (.mov (cs [])),
Q 3 (.mov (cb false))]) (
.ret)) (
.skip))) (
.seq (
.region [V 18 0,
V 19 4,
Q 20 (.sslice (.t 18) none (some (.t 19))),
V 2 20,
Q 3 (.mov (cb true))]) (
.ret))))
def a120 : AFunc := ⟨c120, [.tmp 2, .tmp 3], true⟩
def c121 : ACode :=
.seq (
.region [M 2 (.alloc 24 3 zl6),
Q 3 (.mov (ci 0))]) (
.seq (
.region [V 7 0,
E 8 (.callf 114 [(.t 7)]),
V 4 8]) (
.seq (
.region [V 9 4,
E 10 (.callf 168 [(.t 9)]),
Q 11 (.build zl6 [(0, 1, (.t 10))]),
M 5 (.alloc 24 3 zl6),
S 3 5 11]) (
.seq (
.region [V 12 4,
E 13 (.callf 168 [(.t 12)]),
Q 14 (.faddr 1 (.t 5)),
S 1 14 13]) (
.seq (
.seq (
.region [V 15 4,
E 16 (.callf 168 [(.t 15)]),
V 6 16]) (
.block 0 (
.loop (
.seq (
.seq (
.region [V 17 6,
Q 18 (.bin .gtr .scalar (.t 17) (ci 0)),
V 19 18,
G 20 (.mov (.t 4)) 19 true,
⟨some 21, .e (.callf 119 [(.t 20)]), some (19, true), 0⟩,
G 22 (.bin .eql .scalar (.t 21) (ci 0)) 19 true,
Q 23 (.pick (.t 19) (.t 22) (cb false)),
V 24 23,
G 25 (.faddr 2 (.t 5)) 24 true,
G 26 (.load false 1 (.t 25)) 24 true,
G 27 (.len .sl (.t 26)) 24 true,
G 28 (.bin .leq .scalar (.t 27) (ci 100)) 24 true,
Q 29 (.pick (.t 24) (.t 28) (cb false))]) (
.cond (.t 29) (
.skip) (
.exit 0))) (
.seq (
.block 1 (
.draw [D 0 32 (.faddr 2 (.t 5)) 0,
D 1 33 (.load false 1 (.t 32)) 1,
W 2 34 4 0,
⟨3, ⟨some 35, .e (.callf 169 [(.t 34)]), none, 4⟩⟩,
⟨4, ⟨some 36, .m (.bslice 116 8 1 zl11 [(0, 8, (.t 35))]), none, 12⟩⟩,
⟨5, ⟨some 37, .e (.append 116 8 112 (.t 33) (.t 36)), none, 31⟩⟩,
D 6 38 (.faddr 2 (.t 5)) 63,
⟨7, ⟨none, .e (.store 1 (.t 38) (.t 37)), none, 127⟩⟩])) (
.region [V 30 6,
Q 31 (.bin .sub .scalar (.t 30) (ci 1)),
V 6 31])))))) (
.seq (
.seq (
.region [V 39 4,
E 40 (.callf 119 [(.t 39)]),
Q 41 (.bin .neq .scalar (.t 40) (ci 0)),
V 42 41,
G 43 (.load true 3 (.t 5)) 42 false,
⟨some 44, .e (.callf 170 [(.t 43)]), some (42, false), 0⟩,
G 45 (.mov (.t 0)) 42 false,
G 46 (.bin .neq .scalar (.t 44) (.t 45)) 42 false,
Q 47 (.pick (.t 42) (cb true) (.t 46))]) (
.cond (.t 47) (
.seq (
.region [Q 48 (.build zl6 []),
S 3 2 48,
Q 3 (.mov (ci 7))]) (
.ret)) (
.skip))) (
.seq (
.region [Q 49 (.load true 3 (.t 5)),
S 3 2 49,
Q 3 (.mov (ci 0))]) (
.ret)))))))
def a121 : AFunc := ⟨c121, [.cell 2 true 3, .tmp 3], true⟩
def c122 : ACode :=
.seq (
.region [M 3 (.box 24 3 (.t 1)),
Q 4 (.mov (ci 0))]) (
.seq (
.seq (
.region [V 6 0,
Q 7 (.nilck (.t 6)),
Q 8 (.faddr 2 (.t 7)),
Q 9 (.load false 1 (.t 8))]) (
.cond (.t 9) (
.seq (
.region [Q 4 (.mov (ci 17))]) (
.ret)) (
.skip))) (
.seq (
.draw [W 0 10 0 0,
D 1 11 (.nilck (.t 10)) 1,
D 2 12 (.faddr 0 (.t 11)) 3,
D 3 13 (.load false 1 (.t 12)) 7,
D 4 14 (.load true 3 (.t 3)) 0,
⟨5, ⟨some 15, .e (.callf 171 [(.t 13), (.t 14)]), none, 31⟩⟩,
W 6 5 15 63]) (
.seq (
.seq (
.region [V 16 5]) (
.block 0 (
.seq (
.region [Q 18 (.bin .eql .scalar (.t 16) (ci 0)),
V 17 18]) (
.cond (.t 17) (
.seq (
.region [V 19 0,
Q 20 (.nilck (.t 19)),
Q 21 (.faddr 3 (.t 20)),
Q 22 (.load false 1 (.t 21)),
Q 23 (.bin .add .scalar (.t 22) (ci 1)),
Q 24 (.nilck (.t 19)),
Q 25 (.faddr 3 (.t 24)),
S 1 25 23]) (
.seq (
.region [V 26 5,
V 4 26]) (
.ret))) (
.seq (
.seq (
.region [Q 28 (.bin .eql .scalar (.t 16) (ci 7)),
V 27 28]) (
.cond (.t 27) (
.skip) (
.seq (
.region [Q 29 (.bin .eql .scalar (.t 16) (ci 12)),
V 27 29]) (
.cond (.t 27) (
.skip) (
.seq (
.region [Q 30 (.bin .eql .scalar (.t 16) (ci 1)),
V 27 30]) (
.cond (.t 27) (
.skip) (
.seq (
.region [Q 31 (.bin .eql .scalar (.t 16) (ci 11)),
V 27 31]) (
.cond (.t 27) (
.skip) (
.seq (
.region [Q 32 (.bin .eql .scalar (.t 16) (ci 18)),
V 27 32]) (
.cond (.t 27) (
.skip) (
.seq (
.region [Q 33 (.bin .eql .scalar (.t 16) (ci 10)),
V 27 33]) (
.cond (.t 27) (
.skip) (
.region [Q 34 (.bin .eql .scalar (.t 16) (ci 19)),
V 27 34]))))))))))))) (
.cond (.t 27) (
.seq (
.region [V 35 5,
V 4 35]) (
.ret)) (
.skip))))))) (
.seq (
.region [V 36 0,
Q 37 (.nilck (.t 36)),
Q 38 (.faddr 2 (.t 37)),
⟨none, .e (.store 1 (.t 38) (cb true)), none, 0⟩]) (
.seq (
.region [Q 4 (.mov (ci 17))]) (
.ret))))))
def a122 : AFunc := ⟨c122, [.tmp 4], false⟩
def c123 : ACode :=
.seq (
.region [Q 2 (.mov (.c (.one (dc (.nilp))))),
Q 3 (.mov (ci 0))]) (
.seq (
.seq (
.region [V 4 0,
Q 5 (.bin .lss .scalar (.t 4) (ci 1)),
V 6 5,
G 7 (.mov (.t 0)) 6 false,
G 8 (.bin .gtr .scalar (.t 7) (ci 4096)) 6 false,
Q 9 (.pick (.t 6) (cb true) (.t 8))]) (
.cond (.t 9) (
.seq (
.region [Q 2 (.mov (.c (.one (dc (.nilp))))),
Q 3 (.mov (ci 1))]) (
.ret)) (
.skip))) (
.seq (
.region [V 10 0,
M 11 (.mkmap (.int .i64)),
Q 12 (.build zl8 [(0, 1, (.t 10)), (1, 1, (.t 11))]),
M 13 (.box 216 7 (.t 12)),
V 2 13,
Q 3 (.mov (ci 0))]) (
.ret)))
def a123 : AFunc := ⟨c123, [.tmp 2, .tmp 3], false⟩
def c124 : ACode :=
.seq (
.region [M 1 (.box 24 3 (.t 0)),
Q 2 (.mov (cs []))]) (
.seq (
.seq (
.region [Q 6 (.load true 3 (.t 1)),
E 7 (.callf 172 [(.t 6)]),
Q 8 (.un .not (.t 7))]) (
.cond (.t 8) (
.seq (
.region [Q 2 (.mov (cs []))]) (
.ret)) (
.skip))) (
.seq (
.draw [D 0 9 (.faddr 0 (.t 1)) 0,
D 1 10 (.load false 1 (.t 9)) 1,
D 2 11 (.conv (.int .u64) (.t 10)) 3,
D 4 13 (.faddr 1 (.t 1)) 0,
D 5 14 (.load false 1 (.t 13)) 16,
D 6 15 (.conv (.int .u64) (.t 14)) 48,
D 9 18 (.faddr 2 (.t 1)) 0,
D 10 19 (.load false 1 (.t 18)) 512,
D 11 20 (.len .sl (.t 19)) 1536,
D 12 21 (.conv (.int .u64) (.t 20)) 3584,
⟨3, ⟨some 12, .e (.callf 173 [(.t 11)]), none, 7⟩⟩,
⟨7, ⟨some 16, .e (.callf 173 [(.t 15)]), none, 127⟩⟩,
D 8 17 (.bin .add .scalar (.t 12) (.t 16)) 255,
⟨13, ⟨some 22, .e (.callf 173 [(.t 21)]), none, 7935⟩⟩,
D 14 23 (.bin .add .scalar (.t 17) (.t 22)) 16383,
W 15 3 23 32767]) (
.seq (
.seq (
.region [Q 4 (.mov (ci 0))]) (
.block 0 (
.loop (
.seq (
.seq (
.region [V 24 4,
Q 25 (.faddr 2 (.t 1)),
Q 26 (.load false 1 (.t 25)),
Q 27 (.len .sl (.t 26)),
Q 28 (.bin .lss .scalar (.t 24) (.t 27))]) (
.cond (.t 28) (
.skip) (
.exit 0))) (
.seq (
.block 1 (
.seq (
.region [Q 31 (.faddr 2 (.t 1)),
Q 32 (.load false 1 (.t 31)),
V 33 4,
Q 34 (.iaddr 8 none (.t 32) (.t 33)),
Q 35 (.load true 8 (.t 34)),
M 5 (.alloc 116 8 zl11),
S 8 5 35]) (
.seq (
.region [V 36 3,
Q 37 (.faddr 0 (.t 5)),
Q 38 (.load false 1 (.t 37)),
Q 39 (.conv (.int .u64) (.t 38)),
E 40 (.callf 173 [(.t 39)]),
Q 41 (.bin .add .scalar (.t 36) (.t 40)),
V 3 41]) (
.seq (
.region [Q 42 (.faddr 0 (.t 5)),
Q 43 (.load false 1 (.t 42)),
Q 44 (.bin .eql .scalar (.t 43) (ci 3))]) (
.cond (.t 44) (
.region [V 45 3,
Q 46 (.faddr 5 (.t 5)),
Q 47 (.load true 3 (.t 46)),
E 48 (.callf 175 [(.t 47)]),
E 49 (.callf 174 [(.t 48)]),
Q 50 (.bin .add .scalar (.t 45) (.t 49)),
V 3 50]) (
.draw [W 0 51 3 0,
D 1 52 (.faddr 1 (.t 5)) 0,
D 2 53 (.load false 1 (.t 52)) 2,
D 5 56 (.faddr 2 (.t 5)) 0,
D 6 57 (.load false 1 (.t 56)) 32,
D 9 60 (.faddr 3 (.t 5)) 0,
D 10 61 (.faddr 0 (.t 60)) 512,
D 11 62 (.load false 1 (.t 61)) 1536,
D 12 63 (.conv (.int .u64) (.t 62)) 3584,
D 15 66 (.faddr 3 (.t 5)) 0,
D 16 67 (.faddr 1 (.t 66)) 32768,
D 17 68 (.load false 1 (.t 67)) 98304,
D 18 69 (.conv (.int .u64) (.t 68)) 229376,
⟨3, ⟨some 54, .e (.callf 174 [(.t 53)]), none, 6⟩⟩,
D 4 55 (.bin .add .scalar (.t 51) (.t 54)) 15,
⟨7, ⟨some 58, .e (.callf 176 [(.t 57)]), none, 110⟩⟩,
D 8 59 (.bin .add .scalar (.t 55) (.t 58)) 255,
⟨13, ⟨some 64, .e (.callf 173 [(.t 63)]), none, 7918⟩⟩,
D 14 65 (.bin .add .scalar (.t 59) (.t 64)) 16383,
⟨19, ⟨some 70, .e (.callf 173 [(.t 69)]), none, 507630⟩⟩,
D 20 71 (.bin .add .scalar (.t 65) (.t 70)) 1048575,
W 21 3 71 2097151])))))) (
.region [V 29 4,
Q 30 (.bin .add .scalar (.t 29) (ci 1)),
V 4 30])))))) (
.seq (
.seq (
.region [V 72 3,
Q 73 (.len .str (.t 72)),
Q 74 (.bin .gtr .scalar (.t 73) (ci 100000))]) (
.cond (.t 74) (
.seq (
.region [Q 2 (.mov (cs []))]) (
.ret)) (
.skip))) (
.seq (
.region [V 75 3,
V 2 75]) (
.ret))))))
def a124 : AFunc := ⟨c124, [.tmp 2], true⟩
def c125 : ACode :=
.seq (
.region [Q 2 (.mov (cs []))]) (
.seq (
.region [V 3 0,
Q 4 (.conv (.int .u64) (.t 3)),
E 5 (.callf 177 [(.t 4)]),
Q 6 (.sslice (.t 5) (some (ci 4)) none),
V 2 6]) (
.ret))
def a125 : AFunc := ⟨c125, [.tmp 2], true⟩
def c126 : ACode :=
.seq (
.region [Q 2 (.mov (cs []))]) (
.seq (
.region [V 6 0,
E 7 (.callf 178 [(.t 6)]),
V 3 7]) (
.seq (
.region [V 8 0,
V 4 8]) (
.seq (
.seq (
.region [Q 5 (.mov (ci 0))]) (
.block 0 (
.loop (
.seq (
.seq (
.region [V 9 5,
Q 10 (.bin .lss .scalar (.t 9) (ci 4))]) (
.cond (.t 10) (
.skip) (
.exit 0))) (
.seq (
.block 1 (
.seq (
.region [V 13 4,
V 14 3,
Q 15 (.bin .rem .scalar (.t 14) (.c (.one (dc (.int .u32 256))))),
Q 16 (.conv (.int .u8) (.t 15)),
M 17 (.bslice 5 1 1 [dc (.int .u8 0)] [(0, 1, (.t 16))]),
Q 18 (.conv .b2s (.t 17)),
Q 19 (.bin .add .scalar (.t 13) (.t 18)),
V 4 19]) (
.region [V 20 3,
Q 21 (.bin .quo .scalar (.t 20) (.c (.one (dc (.int .u32 256))))),
V 3 21]))) (
.region [V 11 5,
Q 12 (.bin .add .scalar (.t 11) (ci 1)),
V 5 12])))))) (
.seq (
.region [V 22 4,
V 2 22]) (
.ret)))))
def a126 : AFunc := ⟨c126, [.tmp 2], true⟩
def c127 : ACode :=
.seq (
.region [M 3 (.box 74 11 (.t 1)),
M 4 (.alloc 36 3 zl29),
Q 5 (.mov (ci 0))]) (
.seq (
.draw [D 1 12 (.faddr 0 (.t 3)) 0,
D 2 13 (.load false 1 (.t 12)) 2,
⟨7, ⟨some 6, .m (.alloc 205 2 [dc (.nilf), dc (.nilf)]), none, 0⟩⟩,
⟨0, ⟨some 11, .e (.callf 129 []), none, 0⟩⟩,
D 3 14 (.lookup (.int .i64) (.agg [dc (.nilf), dc (.nilf)]) true (.t 11) (.t 13)) 7,
W 4 10 14 15,
D 5 15 (.extract 0 (.t 10)) 31,
D 6 16 (.extract 1 (.t 10)) 31,
⟨8, ⟨none, .e (.store 2 (.t 6) (.t 15)), none, 191⟩⟩,
W 9 7 16 511]) (
.seq (
.seq (
.region [V 17 7,
Q 18 (.un .not (.t 17))]) (
.cond (.t 18) (
.region [E 19 (.callf 129 []),
Q 20 (.lookup (.int .i64) (.agg [dc (.nilf), dc (.nilf)]) false (.t 19) (ci 4)),
S 2 6 20]) (
.skip))) (
.seq (
.draw [W 0 22 0 0,
D 1 23 (.faddr 1 (.t 3)) 0,
D 2 24 (.load false 1 (.t 23)) 2,
D 3 25 (.faddr 0 (.t 6)) 0,
D 4 26 (.load false 1 (.t 25)) 8,
W 5 27 0 0,
D 6 28 (.load true 11 (.t 3)) 0,
⟨12, ⟨some 8, .m (.alloc 36 3 zl29), none, 0⟩⟩,
⟨7, ⟨some 29, .e (.callv (.t 26) [(.t 27), (.t 28)]), none, 120⟩⟩,
⟨8, ⟨some 30, .e (.callf 7 [(.t 22), (.t 24), (.t 29)]), none, 255⟩⟩,
W 9 21 30 511,
D 10 31 (.extract 0 (.t 21)) 1023,
D 11 32 (.extract 1 (.t 21)) 1023,
⟨13, ⟨none, .e (.store 3 (.t 8) (.t 31)), none, 6143⟩⟩,
W 14 9 32 16383]) (
.seq (
.seq (
.region [V 33 9,
Q 34 (.bin .neq .scalar (.t 33) (ci 0)),
V 35 34,
G 36 (.faddr 0 (.t 3)) 35 true,
G 37 (.load false 1 (.t 36)) 35 true,
G 38 (.bin .neq .scalar (.t 37) (ci 1)) 35 true,
Q 39 (.pick (.t 35) (.t 38) (cb false)),
V 40 39,
G 41 (.faddr 0 (.t 3)) 40 true,
G 42 (.load false 1 (.t 41)) 40 true,
G 43 (.bin .neq .scalar (.t 42) (ci 2)) 40 true,
Q 44 (.pick (.t 40) (.t 43) (cb false))]) (
.cond (.t 44) (
.region [Q 9 (.mov (ci 18))]) (
.skip))) (
.seq (
.region [Q 45 (.load true 3 (.t 8)),
V 46 9,
S 3 4 45,
V 5 46]) (
.ret))))))
def a127 : AFunc := ⟨c127, [.cell 4 true 3, .tmp 5], true⟩
def c128 : ACode :=
.seq (
.region [M 2 (.box 74 11 (.t 0)),
M 3 (.box 36 3 (.t 1)),
Q 4 (.mov (cb false))]) (
.seq (
.seq (
.region [Q 7 (.faddr 1 (.t 2)),
Q 8 (.load false 1 (.t 7)),
Q 9 (.faddr 0 (.t 3)),
Q 10 (.load false 1 (.t 9)),
Q 11 (.bin .neq .scalar (.t 8) (.t 10)),
V 12 11,
G 13 (.faddr 8 (.t 2)) 12 false,
G 14 (.load false 1 (.t 13)) 12 false,
G 15 (.len .sl (.t 14)) 12 false,
G 16 (.bin .gtr .scalar (.t 15) (ci 16)) 12 false,
Q 17 (.pick (.t 12) (cb true) (.t 16)),
V 18 17,
G 19 (.faddr 9 (.t 2)) 18 false,
G 20 (.load false 1 (.t 19)) 18 false,
G 21 (.bin .lss .scalar (.t 20) (ci 0)) 18 false,
Q 22 (.pick (.t 18) (cb true) (.t 21)),
V 23 22,
G 24 (.faddr 9 (.t 2)) 23 false,
G 25 (.load false 1 (.t 24)) 23 false,
G 26 (.bin .gtr .scalar (.t 25) (ci 1099511627776)) 23 false,
Q 27 (.pick (.t 23) (cb true) (.t 26)),
V 28 27,
G 29 (.load true 11 (.t 2)) 28 false,
G 30 (.load true 3 (.t 3)) 28 false,
⟨some 31, .e (.callf 179 [(.t 29), (.t 30)]), some (28, false), 0⟩,
G 32 (.un .not (.t 31)) 28 false,
Q 33 (.pick (.t 28) (cb true) (.t 32))]) (
.cond (.t 33) (
.seq (
.region [Q 4 (.mov (cb false))]) (
.ret)) (
.skip))) (
.seq (
.seq (
.region [Q 34 (.faddr 8 (.t 2)),
Q 35 (.load false 1 (.t 34)),
Q 36 (.len .sl (.t 35)),
Q 37 (.mov (ci 0))]) (
.block 0 (
.loop (
.seq (
.region [Q 38 (.bin .lss .scalar (.t 37) (.t 36))]) (
.seq (
.cond (.t 38) (
.skip) (
.exit 0)) (
.seq (
.block 1 (
.seq (
.region [Q 39 (.iaddr 1 none (.t 35) (.t 37)),
Q 40 (.load false 1 (.t 39)),
V 6 40]) (
.seq (
.region [V 41 6,
Q 42 (.bin .lss .scalar (.t 41) (ci 0)),
V 43 42,
G 44 (.mov (.t 6)) 43 false,
G 45 (.faddr 1 (.t 3)) 43 false,
G 46 (.load false 1 (.t 45)) 43 false,
G 47 (.len .sl (.t 46)) 43 false,
G 48 (.bin .geq .scalar (.t 44) (.t 47)) 43 false,
Q 49 (.pick (.t 43) (cb true) (.t 48))]) (
.cond (.t 49) (
.seq (
.region [Q 4 (.mov (cb false))]) (
.ret)) (
.skip))))) (
.region [Q 50 (.bin .add .scalar (.t 37) (ci 1)),
V 37 50]))))))) (
.seq (
.region [Q 51 (.faddr 7 (.t 2)),
Q 52 (.load false 1 (.t 51)),
Q 53 (.len .sl (.t 52)),
Q 54 (.bin .eql .scalar (.t 53) (ci 0)),
V 55 54,
G 56 (.faddr 7 (.t 2)) 55 false,
G 57 (.load false 1 (.t 56)) 55 false,
G 58 (.load true 3 (.t 3)) 55 false,
⟨some 59, .e (.callf 180 [(.t 57), (.t 58)]), some (55, false), 0⟩,
Q 60 (.pick (.t 55) (cb true) (.t 59)),
V 4 60]) (
.ret))))
def a128 : AFunc := ⟨c128, [.tmp 4], true⟩
def c129 : ACode :=
.seq (
.region [Q 0 (.mov (.c (.one (dc (.nilm)))))]) (
.seq (
.region [M 1 (.mkmap (.int .i64)),
Q 2 (.build [dc (.nilf), dc (.nilf)] [(0, 1, (.c (.one (.fn (.func 181) 181 [] [])))), (1, 1, (.c (.one (.fn (.func 182) 182 [] []))))]),
⟨none, .e (.mapup (.int .i64) (.t 1) (ci 1) (.t 2)), none, 0⟩,
Q 3 (.build [dc (.nilf), dc (.nilf)] [(0, 1, (.c (.one (.fn (.func 181) 181 [] [])))), (1, 1, (.c (.one (.fn (.func 183) 183 [] []))))]),
⟨none, .e (.mapup (.int .i64) (.t 1) (ci 2) (.t 3)), none, 0⟩,
Q 4 (.build [dc (.nilf), dc (.nilf)] [(0, 1, (.c (.one (.fn (.func 184) 184 [] [])))), (1, 1, (.c (.one (.fn (.func 185) 185 [] []))))]),
⟨none, .e (.mapup (.int .i64) (.t 1) (ci 3) (.t 4)), none, 0⟩,
Q 5 (.build [dc (.nilf), dc (.nilf)] [(0, 1, (.c (.one (.fn (.func 184) 184 [] [])))), (1, 1, (.c (.one (.fn (.func 186) 186 [] []))))]),
⟨none, .e (.mapup (.int .i64) (.t 1) (ci 4) (.t 5)), none, 0⟩,
V 6 1,
V 0 6]) (
.ret))
def a129 : AFunc := ⟨c129, [.tmp 0], false⟩
def c130 : ACode :=
.seq (
.region [M 2 (.box 74 11 (.t 0)),
Q 4 (.mov (cb false))]) (
.seq (
.region [Q 5 (.faddr 7 (.t 2)),
Q 6 (.load false 1 (.t 5)),
Q 7 (.len .sl (.t 6)),
Q 8 (.bin .eql .scalar (.t 7) (ci 0)),
V 9 8,
G 10 (.faddr 7 (.t 2)) 9 false,
G 11 (.load false 1 (.t 10)) 9 false,
G 12 (.mov (.t 1)) 9 false,
⟨some 13, .e (.callf 187 [(.t 11), (.t 12)]), some (9, false), 0⟩,
G 14 (.bin .gtr .scalar (.t 13) (ci 0)) 9 false,
Q 15 (.pick (.t 9) (cb true) (.t 14)),
V 4 15]) (
.ret))
def a130 : AFunc := ⟨c130, [.tmp 4], true⟩
def c131 : ACode :=
.seq (
.region [M 2 (.box 74 11 (.t 0)),
Q 4 (.mov (.c (.one (dc (.sl [] true)))))]) (
.seq (
.seq (
.region [Q 8 (.faddr 8 (.t 2)),
Q 9 (.load false 1 (.t 8)),
Q 10 (.len .sl (.t 9)),
Q 11 (.bin .eql .scalar (.t 10) (ci 0))]) (
.cond (.t 11) (
.seq (
.region [V 12 1,
E 13 (.append 128 4 40 (.c (.one (dc (.sl [] true)))) (.t 12)),
V 4 13]) (
.ret)) (
.skip))) (
.seq (
.region [Q 14 (.faddr 8 (.t 2)),
Q 15 (.load false 1 (.t 14)),
Q 16 (.len .sl (.t 15)),
M 17 (.mkslice 128 4 40 zl5 (.t 16) (.t 16)),
V 5 17]) (
.seq (
.seq (
.region [Q 18 (.faddr 8 (.t 2)),
Q 19 (.load false 1 (.t 18)),
Q 20 (.len .sl (.t 19)),
Q 21 (.mov (ci 0))]) (
.block 0 (
.loop (
.seq (
.region [Q 22 (.bin .lss .scalar (.t 21) (.t 20))]) (
.seq (
.cond (.t 22) (
.skip) (
.exit 0)) (
.seq (
.block 1 (
.seq (
.region [V 23 21,
Q 24 (.iaddr 1 none (.t 19) (.t 21)),
Q 25 (.load false 1 (.t 24)),
V 6 23,
V 7 25]) (
.seq (
.region [V 26 7,
Q 27 (.bin .geq .scalar (.t 26) (ci 0)),
V 28 27,
G 29 (.mov (.t 7)) 28 true,
G 30 (.mov (.t 1)) 28 true,
G 31 (.len .sl (.t 30)) 28 true,
G 32 (.bin .lss .scalar (.t 29) (.t 31)) 28 true,
Q 33 (.pick (.t 28) (.t 32) (cb false))]) (
.cond (.t 33) (
.region [V 34 5,
V 35 6,
V 36 1,
V 37 7,
Q 38 (.iaddr 4 none (.t 36) (.t 37)),
Q 39 (.load true 4 (.t 38)),
Q 40 (.iaddr 4 none (.t 34) (.t 35)),
S 4 40 39]) (
.skip))))) (
.region [Q 41 (.bin .add .scalar (.t 21) (ci 1)),
V 21 41]))))))) (
.seq (
.region [V 42 5,
V 4 42]) (
.ret)))))
def a131 : AFunc := ⟨c131, [.tmp 4], true⟩
def c132 : ACode :=
.seq (
.region [Q 2 (.mov (ci 0))]) (
.seq (
.block 0 (
.seq (
.region [V 4 0,
Q 5 (.bin .eql .ptr (.t 4) (.c (.one (dc (.nilp))))),
V 6 5,
G 7 (.mov (.t 0)) 6 false,
G 8 (.nilck (.t 7)) 6 false,
G 9 (.faddr 2 (.t 8)) 6 false,
G 10 (.load false 1 (.t 9)) 6 false,
G 11 (.bin .eql .ptr (.t 10) (.c (.one (dc (.nilp))))) 6 false,
Q 12 (.pick (.t 6) (cb true) (.t 11)),
V 3 12]) (
.cond (.t 3) (
.seq (
.region [Q 2 (.mov (ci 13))]) (
.ret)) (
.seq (
.region [V 14 0,
Q 15 (.nilck (.t 14)),
Q 16 (.faddr 5 (.t 15)),
Q 17 (.load false 1 (.t 16)),
V 13 17]) (
.cond (.t 13) (
.seq (
.region [Q 2 (.mov (ci 17))]) (
.ret)) (
.skip)))))) (
.seq (
.region [Q 2 (.mov (ci 0))]) (
.ret)))
def a132 : AFunc := ⟨c132, [.tmp 2], false⟩
def c133 : ACode :=
.seq (
.region [M 2 (.box 54 1 (.t 0)),
M 3 (.box 29 1 (.t 1)),
Q 4 (.mov (ci 0))]) (
.seq (
.region [Q 5 (.load false 1 (.t 2)),
Q 6 (.load false 1 (.t 3)),
Q 7 (.mkfn (.func 189) 189 [] [(.t 2), (.t 3)]),
E 8 (.callf 188 [(.t 5), (.t 6), (.t 7)]),
V 4 8]) (
.ret))
def a133 : AFunc := ⟨c133, [.tmp 4], false⟩
def c134 : ACode :=
.seq (
.region [Q 2 (.mov (ci 0))]) (
.seq (
.seq (
.region [V 3 0,
Q 4 (.bin .eql .ptr (.t 3) (.c (.one (dc (.nilp)))))]) (
.cond (.t 4) (
.seq (
.region [Q 2 (.mov (ci 0))]) (
.ret)) (
.skip))) (
.seq (
.region [V 5 0,
Q 6 (.nilck (.t 5)),
Q 7 (.faddr 0 (.t 6)),
Q 8 (.load false 1 (.t 7)),
V 2 8]) (
.ret)))
def a134 : AFunc := ⟨c134, [.tmp 2], false⟩
def c135 : ACode :=
.seq (
.region [M 3 (.box 219 2 (.t 1))]) (
.seq (
.seq (
.draw [D 0 4 (.faddr 1 (.t 3)) 0,
D 1 5 (.load false 1 (.t 4)) 1,
⟨2, ⟨some 6, .e (.callf 192 []), none, 0⟩⟩,
D 3 7 (.bin .eql .scalar (.t 5) (.t 6)) 7]) (
.cond (.t 7) (
.seq (
.draw [W 0 8 0 0,
D 1 9 (.nilck (.t 8)) 1,
D 2 10 (.faddr 1 (.t 9)) 3,
D 3 11 (.load false 1 (.t 10)) 7,
D 4 12 (.faddr 0 (.t 3)) 0,
D 5 13 (.load false 1 (.t 12)) 16,
⟨6, ⟨none, .e (.del (.int .i64) (.t 11) (.t 13)), none, 63⟩⟩]) (
.ret)) (
.skip))) (
.draw [W 0 14 0 0,
D 1 15 (.nilck (.t 14)) 1,
D 2 16 (.faddr 1 (.t 15)) 3,
D 3 17 (.load false 1 (.t 16)) 7,
D 4 18 (.faddr 0 (.t 3)) 0,
D 5 19 (.load false 1 (.t 18)) 16,
D 6 20 (.faddr 1 (.t 3)) 0,
D 7 21 (.load false 1 (.t 20)) 64,
⟨8, ⟨none, .e (.mapup (.int .i64) (.t 17) (.t 19) (.t 21)), none, 255⟩⟩]))
def a135 : AFunc := ⟨c135, [], false⟩
def c136 : ACode :=
.seq (
.region [Q 4 (.mov (.c (.one (dc (.nilp))))),
Q 5 (.mov (ci 0))]) (
.seq (
.seq (
.region [V 11 0,
E 12 (.callf 134 [(.t 11)]),
V 13 1,
Q 14 (.bin .sub .scalar (.t 12) (.t 13)),
V 6 14]) (
.seq (
.region [V 15 0,
E 16 (.callf 134 [(.t 15)]),
Q 17 (.bin .eql .scalar (.t 16) (ci 0)),
V 18 17,
G 19 (.mov (.t 6)) 18 false,
G 20 (.bin .lss .scalar (.t 19) (ci 1)) 18 false,
Q 21 (.pick (.t 18) (cb true) (.t 20)),
V 22 21,
G 23 (.mov (.t 6)) 22 false,
G 24 (.bin .gtr .scalar (.t 23) (ci 1024)) 22 false,
Q 25 (.pick (.t 22) (cb true) (.t 24))]) (
.cond (.t 25) (
.seq (
.region [Q 4 (.mov (.c (.one (dc (.nilp))))),
Q 5 (.mov (ci 1))]) (
.ret)) (
.skip)))) (
.seq (
.region [V 27 0,
V 28 1,
E 29 (.callf 193 [(.t 27), (ci 0), (.t 28)]),
V 26 29,
Q 30 (.extract 0 (.t 26)),
Q 31 (.extract 1 (.t 26)),
V 7 30,
V 8 31]) (
.seq (
.seq (
.region [V 32 8,
Q 33 (.bin .neq .scalar (.t 32) (ci 0))]) (
.cond (.t 33) (
.seq (
.region [V 34 8,
Q 4 (.mov (.c (.one (dc (.nilp))))),
V 5 34]) (
.ret)) (
.skip))) (
.seq (
.region [V 35 0,
V 36 7,
V 37 1,
M 38 (.mkmap (.int .i64)),
Q 39 (.build zl20 [(0, 1, (.t 35)), (1, 1, (.t 36)), (2, 1, (.t 37)), (3, 1, (.t 38))]),
M 40 (.box 263 5 (.t 39)),
V 9 40]) (
.seq (
.seq (
.region [V 41 9,
E 42 (.callf 194 [(.t 41)]),
V 10 42]) (
.seq (
.region [V 43 10,
Q 44 (.bin .neq .scalar (.t 43) (ci 0))]) (
.cond (.t 44) (
.seq (
.region [V 45 10,
Q 4 (.mov (.c (.one (dc (.nilp))))),
V 5 45]) (
.ret)) (
.skip)))) (
.seq (
.region [V 46 9,
V 4 46,
Q 5 (.mov (ci 0))]) (
.ret)))))))
def a136 : AFunc := ⟨c136, [.tmp 4, .tmp 5], false⟩
def c137 : ACode :=
.seq (
.region [Q 2 (.mov (.c (.one (dc (.nilp))))),
Q 3 (.mov (ci 0))]) (
.seq (
.seq (
.region [V 6 0,
E 7 (.callf 195 [(.t 6)]),
Q 8 (.bin .lss .scalar (.t 7) (ci 2))]) (
.cond (.t 8) (
.seq (
.region [Q 2 (.mov (.c (.one (dc (.nilp))))),
Q 3 (.mov (ci 1))]) (
.ret)) (
.skip))) (
.seq (
.seq (
.region [V 9 0,
E 10 (.callf 196 [(.t 9), (ci 1)])]) (
.cond (.t 10) (
.seq (
.region [V 11 0,
E 12 (.callf 197 [(.t 11)])]) (
.region [V 13 0,
M 14 (.bslice 5 1 1 [dc (.int .u8 0)] [(0, 1, (.c (.one (dc (.int .u8 82)))))]),
Q 15 (.conv .b2s (.t 14)),
E 16 (.callf 198 [(.t 13), (ci 1), (.t 15)])])) (
.skip))) (
.seq (
.seq (
.region [V 18 0,
E 19 (.callf 199 [(.t 18), (ci 1)]),
V 17 19,
Q 20 (.extract 0 (.t 17)),
Q 21 (.extract 1 (.t 17)),
V 4 20,
V 5 21]) (
.seq (
.region [V 22 4,
Q 23 (.sidx (.t 22) (ci 0)),
Q 24 (.bin .neq .scalar (.t 23) (.c (.one (dc (.int .u8 82)))))]) (
.cond (.t 24) (
.seq (
.region [Q 2 (.mov (.c (.one (dc (.nilp))))),
Q 3 (.mov (ci 7))]) (
.ret)) (
.skip)))) (
.seq (
.region [V 25 0,
Q 26 (.build [dc (.nilp)] [(0, 1, (.t 25))]),
M 27 (.box 268 1 (.t 26)),
V 2 27,
Q 3 (.mov (ci 0))]) (
.ret)))))
def a137 : AFunc := ⟨c137, [.tmp 2, .tmp 3], false⟩
def c138 : ACode :=
.seq (
.region [M 1 (.box 59 1 (.t 0)),
Q 2 (.mov (ci 0))]) (
.seq (
.block 0 (
.seq (
.region [Q 9 (.load false 1 (.t 1)),
E 10 (.callf 200 [(.t 9)]),
Q 11 (.un .not (.t 10)),
V 8 11]) (
.cond (.t 8) (
.seq (
.region [Q 2 (.mov (ci 13))]) (
.ret)) (
.seq (
.region [Q 13 (.load false 1 (.t 1)),
Q 14 (.nilck (.t 13)),
Q 15 (.faddr 4 (.t 14)),
Q 16 (.load false 1 (.t 15)),
V 12 16]) (
.cond (.t 12) (
.seq (
.region [Q 2 (.mov (ci 6))]) (
.ret)) (
.seq (
.region [Q 18 (.load false 1 (.t 1)),
Q 19 (.nilck (.t 18)),
Q 20 (.faddr 3 (.t 19)),
Q 21 (.load false 1 (.t 20)),
Q 22 (.len .map (.t 21)),
Q 23 (.bin .eql .scalar (.t 22) (ci 0)),
V 17 23]) (
.cond (.t 17) (
.seq (
.region [Q 2 (.mov (ci 0))]) (
.ret)) (
.skip)))))))) (
.seq (
.draw [D 0 24 (.load false 1 (.t 1)) 0,
D 1 25 (.load false 1 (.t 1)) 0,
D 2 26 (.nilck (.t 25)) 2,
D 3 27 (.faddr 3 (.t 26)) 6,
D 4 28 (.load false 1 (.t 27)) 14,
⟨6, ⟨some 3, .m (.alloc 9 1 [dc (.str [])]), none, 0⟩⟩,
⟨5, ⟨some 29, .e (.callf 201 [(.t 24), (.t 28)]), none, 31⟩⟩,
⟨7, ⟨none, .e (.store 1 (.t 3) (.t 29)), none, 127⟩⟩]) (
.seq (
.seq (
.draw [D 0 30 (.load false 1 (.t 1)) 0,
D 1 31 (.nilck (.t 30)) 1,
D 2 32 (.faddr 1 (.t 31)) 3,
D 3 33 (.load false 1 (.t 32)) 7,
D 4 34 (.load false 1 (.t 3)) 0,
D 5 35 (.len .str (.t 34)) 16,
⟨6, ⟨some 36, .e (.callf 202 [(.t 33), (.t 35)]), none, 63⟩⟩,
D 7 37 (.un .not (.t 36)) 127]) (
.cond (.t 37) (
.seq (
.region [Q 2 (.mov (ci 3))]) (
.ret)) (
.skip))) (
.seq (
.draw [D 0 38 (.mkfn (.func 203) 203 [] [(.t 1), (.t 3)]) 0,
D 1 39 (.load false 1 (.t 1)) 0,
D 2 40 (.nilck (.t 39)) 2,
D 3 41 (.faddr 1 (.t 40)) 6,
D 4 42 (.load false 1 (.t 41)) 14,
D 5 43 (.mkfn (.func 205) 205 [(.t 42)] []) 30,
D 6 44 (.mkfn (.func 206) 206 [] [(.t 1)]) 0,
D 7 45 (.load false 1 (.t 1)) 0,
D 8 46 (.mkfn (.func 208) 208 [(.t 45)] []) 128,
⟨9, ⟨some 47, .m (.bslice 84 1 4 zl17 [(0, 1, (.t 38)), (1, 1, (.t 43)), (2, 1, (.t 44)), (3, 1, (.t 46))]), none, 511⟩⟩,
W 10 4 47 1023]) (
.seq (
.seq (
.region [V 48 4,
Q 49 (.len .sl (.t 48)),
Q 50 (.mov (ci 0))]) (
.block 1 (
.loop (
.seq (
.region [Q 51 (.bin .lss .scalar (.t 50) (.t 49))]) (
.seq (
.cond (.t 51) (
.skip) (
.exit 1)) (
.seq (
.block 2 (
.seq (
.region [Q 52 (.iaddr 1 none (.t 48) (.t 50)),
Q 53 (.load false 1 (.t 52)),
V 6 53]) (
.seq (
.region [V 54 6,
E 55 (.callv (.t 54) []),
V 7 55]) (
.seq (
.region [V 56 7,
Q 57 (.bin .neq .scalar (.t 56) (ci 0))]) (
.cond (.t 57) (
.seq (
.region [Q 58 (.load false 1 (.t 1)),
Q 59 (.nilck (.t 58)),
Q 60 (.faddr 4 (.t 59)),
⟨none, .e (.store 1 (.t 60) (cb true)), none, 0⟩]) (
.seq (
.region [V 61 7,
V 2 61]) (
.ret))) (
.skip)))))) (
.region [Q 62 (.bin .add .scalar (.t 50) (ci 1)),
V 50 62]))))))) (
.seq (
.region [Q 63 (.load false 1 (.t 1)),
E 64 (.callf 209 [(.t 63)])]) (
.seq (
.region [Q 2 (.mov (ci 0))]) (
.ret))))))))
def a138 : AFunc := ⟨c138, [.tmp 2], false⟩
def c139 : ACode :=
.seq (
.region [Q 2 (.mov (cs [])),
Q 3 (.mov (ci 0))]) (
.seq (
.block 0 (
.seq (
.region [V 5 0,
E 6 (.callf 210 [(.t 5)]),
Q 7 (.un .not (.t 6)),
V 4 7]) (
.cond (.t 4) (
.seq (
.region [Q 2 (.mov (cs [])),
Q 3 (.mov (ci 13))]) (
.ret)) (
.seq (
.region [V 9 0,
E 10 (.callf 211 [(.t 9)]),
Q 11 (.bin .eql .scalar (.t 10) (ci 0)),
V 8 11]) (
.cond (.t 8) (
.seq (
.region [Q 2 (.mov (cs [])),
Q 3 (.mov (ci 4))]) (
.ret)) (
.skip)))))) (
.seq (
.region [V 12 0,
V 13 0,
E 14 (.callf 211 [(.t 13)]),
E 15 (.callf 212 [(.t 12), (.t 14)]),
Q 16 (.extract 0 (.t 15)),
Q 17 (.extract 1 (.t 15)),
V 2 16,
V 3 17]) (
.ret)))
def a139 : AFunc := ⟨c139, [.tmp 2, .tmp 3], false⟩
def c140 : ACode :=
.seq (
.region [M 2 (.alloc 63 2 zl9),
Q 3 (.mov (cb false))]) (
.seq (
.region [V 8 0,
E 9 (.callf 114 [(.t 8)]),
M 4 (.alloc 186 1 [dc (.nilp)]),
S 1 4 9]) (
.seq (
.region [Q 10 (.mkfn (.func 213) 213 [] [(.t 4)]),
V 5 10]) (
.seq (
.region [V 11 5,
E 12 (.callv (.t 11) []),
Q 13 (.build zl9 [(0, 1, (.t 12))]),
M 6 (.alloc 63 2 zl9),
S 2 6 13]) (
.seq (
.seq (
.region [Q 14 (.load false 1 (.t 4)),
E 15 (.callf 160 [(.t 14)]),
V 7 15]) (
.block 0 (
.loop (
.seq (
.seq (
.region [V 16 7,
Q 17 (.bin .gtr .scalar (.t 16) (.c (.one (dc (.int .u64 0))))),
V 18 17,
G 19 (.load false 1 (.t 4)) 18 true,
⟨some 20, .e (.callf 119 [(.t 19)]), some (18, true), 0⟩,
G 21 (.bin .eql .scalar (.t 20) (ci 0)) 18 true,
Q 22 (.pick (.t 18) (.t 21) (cb false))]) (
.cond (.t 22) (
.skip) (
.exit 0))) (
.seq (
.block 1 (
.draw [D 0 25 (.faddr 1 (.t 6)) 0,
D 1 26 (.load false 1 (.t 25)) 1,
W 2 27 5 0,
⟨3, ⟨some 28, .e (.callv (.t 27) []), none, 4⟩⟩,
⟨4, ⟨some 29, .m (.bslice 3 1 1 [dc (.int .i64 0)] [(0, 1, (.t 28))]), none, 12⟩⟩,
⟨5, ⟨some 30, .e (.append 3 1 8 (.t 26) (.t 29)), none, 31⟩⟩,
D 6 31 (.faddr 1 (.t 6)) 63,
⟨7, ⟨none, .e (.store 1 (.t 31) (.t 30)), none, 127⟩⟩])) (
.region [V 23 7,
Q 24 (.bin .sub .scalar (.t 23) (.c (.one (dc (.int .u64 1))))),
V 7 24])))))) (
.seq (
.draw [D 0 32 (.load true 2 (.t 6)) 0,
D 1 33 (.load false 1 (.t 4)) 0,
⟨2, ⟨some 34, .e (.callf 119 [(.t 33)]), none, 2⟩⟩,
D 3 35 (.bin .eql .scalar (.t 34) (ci 0)) 6,
W 4 36 35 14,
⟨5, ⟨some 37, .q (.load true 2 (.t 6)), some (36, true), 30⟩⟩,
⟨7, ⟨some 39, .q (.mov (.t 0)), some (36, true), 30⟩⟩,
⟨6, ⟨some 38, .e (.callf 214 [(.t 37)]), some (36, true), 62⟩⟩,
⟨8, ⟨some 40, .q (.bin .eql .scalar (.t 38) (.t 39)), some (36, true), 254⟩⟩,
D 9 41 (.pick (.t 36) (.t 40) (cb false)) 510,
⟨10, ⟨none, .e (.store 2 (.t 2) (.t 32)), none, 127⟩⟩,
W 11 3 41 2047]) (
.ret))))))
def a140 : AFunc := ⟨c140, [.cell 2 true 2, .tmp 3], false⟩
def c141 : ACode :=
.seq (
.region [Q 2 (.mov (cb false))]) (
.seq (
.seq (
.region [V 10 0,
Q 11 (.nilck (.t 10)),
Q 12 (.faddr 3 (.t 11)),
Q 13 (.faddr 0 (.t 12)),
Q 14 (.load false 1 (.t 13)),
Q 15 (.bin .gtr .scalar (.t 14) (ci 0))]) (
.cond (.t 15) (
.seq (
.draw [W 0 17 0 0,
D 1 18 (.nilck (.t 17)) 1,
D 2 19 (.faddr 1 (.t 18)) 3,
D 3 20 (.load false 1 (.t 19)) 7,
W 4 21 0 0,
D 5 22 (.nilck (.t 21)) 16,
D 6 23 (.faddr 3 (.t 22)) 48,
D 7 24 (.faddr 0 (.t 23)) 112,
D 8 25 (.load false 1 (.t 24)) 240,
⟨9, ⟨some 26, .e (.callf 212 [(.t 20), (.t 25)]), none, 511⟩⟩,
W 10 16 26 1023,
D 11 27 (.extract 0 (.t 16)) 2047,
D 12 28 (.extract 1 (.t 16)) 2047,
W 13 3 27 4095,
W 14 4 28 16383]) (
.seq (
.seq (
.region [V 29 4,
Q 30 (.bin .neq .scalar (.t 29) (ci 0))]) (
.cond (.t 30) (
.seq (
.region [Q 2 (.mov (cb false))]) (
.ret)) (
.skip))) (
.seq (
.region [V 32 0,
V 33 3,
E 34 (.callf 64 [(.t 33)]),
V 31 34,
Q 35 (.extract 0 (.t 31)),
Q 36 (.extract 1 (.t 31)),
Q 37 (.nilck (.t 32)),
Q 38 (.faddr 2 (.t 37)),
S 1 38 35,
V 4 36]) (
.seq (
.region [V 39 4,
Q 40 (.bin .neq .scalar (.t 39) (ci 0))]) (
.cond (.t 40) (
.seq (
.region [Q 2 (.mov (cb false))]) (
.ret)) (
.skip)))))) (
.skip))) (
.seq (
.seq (
.region [V 41 0,
Q 42 (.nilck (.t 41)),
Q 43 (.faddr 3 (.t 42)),
Q 44 (.faddr 1 (.t 43)),
Q 45 (.load false 1 (.t 44)),
Q 46 (.len .sl (.t 45)),
Q 47 (.mov (ci 0))]) (
.block 0 (
.loop (
.seq (
.region [Q 48 (.bin .lss .scalar (.t 47) (.t 46))]) (
.seq (
.cond (.t 48) (
.skip) (
.exit 0)) (
.seq (
.block 1 (
.seq (
.region [Q 49 (.iaddr 1 none (.t 45) (.t 47)),
Q 50 (.load false 1 (.t 49)),
V 6 50]) (
.seq (
.region [V 52 0,
Q 53 (.nilck (.t 52)),
Q 54 (.faddr 1 (.t 53)),
Q 55 (.load false 1 (.t 54)),
V 56 6,
E 57 (.callf 212 [(.t 55), (.t 56)]),
V 51 57,
Q 58 (.extract 0 (.t 51)),
Q 59 (.extract 1 (.t 51)),
V 7 58,
V 8 59]) (
.seq (
.seq (
.region [V 60 8,
Q 61 (.bin .neq .scalar (.t 60) (ci 0))]) (
.cond (.t 61) (
.seq (
.region [Q 2 (.mov (cb false))]) (
.ret)) (
.skip))) (
.seq (
.region [V 63 7,
E 64 (.callf 121 [(.t 63)]),
V 62 64,
Q 65 (.extract 0 (.t 62)),
Q 66 (.extract 1 (.t 62)),
M 9 (.alloc 24 3 zl6),
S 3 9 65,
V 8 66]) (
.seq (
.draw [W 0 67 8 0,
D 1 68 (.bin .neq .scalar (.t 67) (ci 0)) 1,
W 2 69 68 3,
⟨3, ⟨some 70, .q (.mov (.t 0)), some (69, false), 7⟩⟩,
⟨4, ⟨some 71, .q (.nilck (.t 70)), some (69, false), 15⟩⟩,
⟨5, ⟨some 72, .q (.faddr 2 (.t 71)), some (69, false), 31⟩⟩,
⟨6, ⟨some 73, .q (.load false 1 (.t 72)), some (69, false), 63⟩⟩,
⟨7, ⟨some 74, .q (.load true 3 (.t 9)), some (69, false), 7⟩⟩,
⟨8, ⟨some 75, .e (.callf 10 [(.t 73), (.t 74)]), some (69, false), 255⟩⟩,
⟨9, ⟨some 76, .q (.bin .neq .scalar (.t 75) (ci 0)), some (69, false), 511⟩⟩,
D 10 77 (.pick (.t 69) (cb true) (.t 76)) 1023]) (
.cond (.t 77) (
.seq (
.region [Q 2 (.mov (cb false))]) (
.ret)) (
.skip)))))))) (
.region [Q 78 (.bin .add .scalar (.t 47) (ci 1)),
V 47 78]))))))) (
.seq (
.region [Q 2 (.mov (cb true))]) (
.ret))))
def a141 : AFunc := ⟨c141, [.tmp 2], false⟩
def c142 : ACode :=
.seq (
.region [M 2 (.box 105 5 (.t 0)),
M 3 (.box 105 5 (.t 1)),
Q 4 (.mov (cb false))]) (
.seq (
.seq (
.region [Q 5 (.faddr 0 (.t 2)),
Q 6 (.faddr 0 (.t 5)),
Q 7 (.load false 1 (.t 6)),
Q 8 (.faddr 0 (.t 3)),
Q 9 (.faddr 0 (.t 8)),
Q 10 (.load false 1 (.t 9)),
Q 11 (.bin .eql .scalar (.t 7) (.t 10))]) (
.cond (.t 11) (
.seq (
.region [Q 12 (.faddr 2 (.t 2)),
Q 13 (.faddr 0 (.t 12)),
Q 14 (.faddr 0 (.t 13)),
Q 15 (.load false 1 (.t 14)),
Q 16 (.faddr 2 (.t 3)),
Q 17 (.faddr 0 (.t 16)),
Q 18 (.faddr 0 (.t 17)),
Q 19 (.load false 1 (.t 18)),
Q 20 (.bin .lss .scalar (.t 15) (.t 19)),
V 4 20]) (
.ret)) (
.skip))) (
.seq (
.region [Q 21 (.faddr 0 (.t 2)),
Q 22 (.faddr 0 (.t 21)),
Q 23 (.load false 1 (.t 22)),
Q 24 (.faddr 0 (.t 3)),
Q 25 (.faddr 0 (.t 24)),
Q 26 (.load false 1 (.t 25)),
Q 27 (.bin .lss .scalar (.t 23) (.t 26)),
V 4 27]) (
.ret)))
def a142 : AFunc := ⟨c142, [.tmp 4], true⟩
def c143 : ACode :=
.seq (
.region [M 2 (.box 105 5 (.t 0)),
M 3 (.box 105 5 (.t 1)),
Q 4 (.mov (cb false))]) (
.seq (
.region [Q 10 (.faddr 0 (.t 2)),
Q 11 (.load true 2 (.t 10)),
Q 12 (.faddr 0 (.t 3)),
Q 13 (.load true 2 (.t 12)),
E 14 (.callf 215 [(.t 11), (.t 13)]),
V 9 14,
Q 15 (.extract 0 (.t 9)),
Q 16 (.extract 1 (.t 9)),
M 5 (.alloc 26 2 zl7),
S 2 5 15,
V 6 16]) (
.seq (
.region [Q 18 (.faddr 2 (.t 2)),
Q 19 (.faddr 0 (.t 18)),
Q 20 (.load true 2 (.t 19)),
Q 21 (.faddr 2 (.t 3)),
Q 22 (.faddr 0 (.t 21)),
Q 23 (.load true 2 (.t 22)),
E 24 (.callf 215 [(.t 20), (.t 23)]),
V 17 24,
Q 25 (.extract 0 (.t 17)),
Q 26 (.extract 1 (.t 17)),
M 7 (.alloc 26 2 zl7),
S 2 7 25,
V 8 26]) (
.seq (
.region [V 27 6,
V 28 27,
G 29 (.mov (.t 8)) 28 true,
Q 30 (.pick (.t 28) (.t 29) (cb false)),
V 4 30]) (
.ret))))
def a143 : AFunc := ⟨c143, [.tmp 4], true⟩
def c144 : ACode :=
.seq (
.region [M 1 (.box 36 3 (.t 0)),
Q 2 (.mov (cb false))]) (
.seq (
.seq (
.region [Q 6 (.faddr 0 (.t 1)),
Q 7 (.load false 1 (.t 6)),
E 8 (.callf 216 [(.t 7)]),
Q 9 (.un .not (.t 8)),
V 10 9,
G 11 (.faddr 1 (.t 1)) 10 false,
G 12 (.load false 1 (.t 11)) 10 false,
G 13 (.len .sl (.t 12)) 10 false,
G 14 (.bin .gtr .scalar (.t 13) (ci 16)) 10 false,
Q 15 (.pick (.t 10) (cb true) (.t 14)),
V 16 15,
G 17 (.faddr 2 (.t 1)) 16 false,
G 18 (.load false 1 (.t 17)) 16 false,
G 19 (.bin .lss .scalar (.t 18) (ci 1)) 16 false,
Q 20 (.pick (.t 16) (cb true) (.t 19)),
V 21 20,
G 22 (.faddr 2 (.t 1)) 21 false,
G 23 (.load false 1 (.t 22)) 21 false,
G 24 (.faddr 1 (.t 1)) 21 false,
G 25 (.load false 1 (.t 24)) 21 false,
G 26 (.len .sl (.t 25)) 21 false,
G 27 (.mnmx false (ci 8) (.t 26)) 21 false,
G 28 (.bin .gtr .scalar (.t 23) (.t 27)) 21 false,
Q 29 (.pick (.t 21) (cb true) (.t 28))]) (
.cond (.t 29) (
.seq (
.region [Q 2 (.mov (cb false))]) (
.ret)) (
.skip))) (
.seq (
.region [M 30 (.mkmap .str),
V 3 30]) (
.seq (
.seq (
.region [Q 31 (.faddr 1 (.t 1)),
Q 32 (.load false 1 (.t 31)),
Q 33 (.len .sl (.t 32)),
Q 34 (.mov (ci 0))]) (
.block 0 (
.loop (
.seq (
.region [Q 35 (.bin .lss .scalar (.t 34) (.t 33))]) (
.seq (
.cond (.t 35) (
.skip) (
.exit 0)) (
.seq (
.block 1 (
.seq (
.region [V 36 34,
Q 37 (.iaddr 3 none (.t 32) (.t 34)),
Q 38 (.load true 3 (.t 37)),
M 5 (.alloc 185 3 zl26),
V 4 36,
S 3 5 38]) (
.seq (
.seq (
.region [Q 39 (.faddr 0 (.t 5)),
Q 40 (.load false 1 (.t 39)),
E 41 (.callf 216 [(.t 40)]),
Q 42 (.un .not (.t 41)),
V 43 42,
G 44 (.mov (.t 3)) 43 false,
G 45 (.faddr 0 (.t 5)) 43 false,
G 46 (.load false 1 (.t 45)) 43 false,
G 47 (.lookup .str (.one (dc (.int .i64 0))) false (.t 44) (.t 46)) 43 false,
G 48 (.bin .gtr .scalar (.t 47) (ci 0)) 43 false,
Q 49 (.pick (.t 43) (cb true) (.t 48)),
V 50 49,
G 51 (.faddr 1 (.t 5)) 50 false,
G 52 (.load false 1 (.t 51)) 50 false,
G 53 (.bin .lss .scalar (.t 52) (ci 1)) 50 false,
Q 54 (.pick (.t 50) (cb true) (.t 53)),
V 55 54,
G 56 (.faddr 1 (.t 5)) 55 false,
G 57 (.load false 1 (.t 56)) 55 false,
G 58 (.bin .gtr .scalar (.t 57) (ci 5)) 55 false,
Q 59 (.pick (.t 55) (cb true) (.t 58)),
V 60 59,
G 61 (.mov (.t 4)) 60 false,
G 62 (.faddr 2 (.t 1)) 60 false,
G 63 (.load false 1 (.t 62)) 60 false,
G 64 (.bin .lss .scalar (.t 61) (.t 63)) 60 false,
G 65 (.mov (.t 64)) 60 false,
G 66 (.faddr 2 (.t 5)) 65 true,
G 67 (.load false 1 (.t 66)) 65 true,
G 68 (.un .not (.t 67)) 65 true,
G 69 (.pick (.t 65) (.t 68) (cb false)) 60 false,
Q 70 (.pick (.t 60) (cb true) (.t 69))]) (
.cond (.t 70) (
.seq (
.region [Q 2 (.mov (cb false))]) (
.ret)) (
.skip))) (
.region [V 71 3,
Q 72 (.faddr 0 (.t 5)),
Q 73 (.load false 1 (.t 72)),
Q 74 (.lookup .str (.one (dc (.int .i64 0))) false (.t 71) (.t 73)),
Q 75 (.bin .add .scalar (.t 74) (ci 1)),
⟨none, .e (.mapup .str (.t 71) (.t 73) (.t 75)), none, 0⟩])))) (
.region [Q 76 (.bin .add .scalar (.t 34) (ci 1)),
V 34 76]))))))) (
.seq (
.region [Q 2 (.mov (cb true))]) (
.ret)))))
def a144 : AFunc := ⟨c144, [.tmp 2], true⟩
def c145 : ACode :=
.seq (
.region [M 2 (.box 36 3 (.t 0)),
Q 4 (.mov (ci 0))]) (
.seq (
.block 0 (
.seq (
.region [Q 8 (.load true 3 (.t 2)),
E 9 (.callf 144 [(.t 8)]),
Q 10 (.un .not (.t 9)),
V 7 10]) (
.cond (.t 7) (
.seq (
.region [Q 4 (.mov (ci 11))]) (
.ret)) (
.seq (
.region [V 12 1,
Q 13 (.len .sl (.t 12)),
Q 14 (.faddr 1 (.t 2)),
Q 15 (.load false 1 (.t 14)),
Q 16 (.len .sl (.t 15)),
Q 17 (.bin .neq .scalar (.t 13) (.t 16)),
V 11 17]) (
.cond (.t 11) (
.seq (
.region [Q 4 (.mov (ci 10))]) (
.ret)) (
.skip)))))) (
.seq (
.seq (
.region [Q 18 (.faddr 1 (.t 2)),
Q 19 (.load false 1 (.t 18)),
Q 20 (.len .sl (.t 19)),
Q 21 (.mov (ci 0))]) (
.block 1 (
.loop (
.seq (
.region [Q 22 (.bin .lss .scalar (.t 21) (.t 20))]) (
.seq (
.cond (.t 22) (
.skip) (
.exit 1)) (
.seq (
.block 2 (
.seq (
.region [V 23 21,
Q 24 (.iaddr 3 none (.t 19) (.t 21)),
Q 25 (.load true 3 (.t 24)),
M 6 (.alloc 185 3 zl26),
V 5 23,
S 3 6 25]) (
.seq (
.draw [D 0 26 (.load true 3 (.t 6)) 0,
W 1 27 1 0,
W 2 28 5 0,
D 3 29 (.iaddr 4 none (.t 27) (.t 28)) 6,
D 4 30 (.load true 4 (.t 29)) 14,
⟨5, ⟨some 31, .e (.callf 217 [(.t 26), (.t 30)]), none, 31⟩⟩,
D 6 32 (.un .not (.t 31)) 63]) (
.cond (.t 32) (
.seq (
.region [Q 4 (.mov (ci 10))]) (
.ret)) (
.skip))))) (
.region [Q 33 (.bin .add .scalar (.t 21) (ci 1)),
V 21 33]))))))) (
.seq (
.region [Q 4 (.mov (ci 0))]) (
.ret))))
def a145 : AFunc := ⟨c145, [.tmp 4], true⟩
def c146 : ACode :=
.seq (
.region [Q 4 (.mov (cb false))]) (
.seq (
.seq (
.region [V 6 0,
Q 7 (.len .sl (.t 6)),
V 8 1,
Q 9 (.len .sl (.t 8)),
Q 10 (.bin .neq .scalar (.t 7) (.t 9))]) (
.cond (.t 10) (
.seq (
.region [Q 4 (.mov (cb false))]) (
.ret)) (
.skip))) (
.seq (
.seq (
.region [V 11 0,
Q 12 (.len .sl (.t 11)),
Q 13 (.mov (ci 0))]) (
.block 0 (
.loop (
.seq (
.region [Q 14 (.bin .lss .scalar (.t 13) (.t 12))]) (
.seq (
.cond (.t 14) (
.skip) (
.exit 0)) (
.seq (
.block 1 (
.seq (
.region [V 15 13,
V 5 15]) (
.seq (
.draw [W 0 16 0 0,
W 1 17 5 0,
D 2 18 (.iaddr 4 none (.t 16) (.t 17)) 3,
D 3 19 (.load true 4 (.t 18)) 7,
W 4 20 1 0,
W 5 21 5 0,
D 6 22 (.iaddr 4 none (.t 20) (.t 21)) 48,
D 7 23 (.load true 4 (.t 22)) 112,
D 8 24 (.bin .neq (.agg [.int, .int, .int, .str]) (.t 19) (.t 23)) 255]) (
.cond (.t 24) (
.seq (
.region [Q 4 (.mov (cb false))]) (
.ret)) (
.skip))))) (
.region [Q 25 (.bin .add .scalar (.t 13) (ci 1)),
V 13 25]))))))) (
.seq (
.region [Q 4 (.mov (cb true))]) (
.ret))))
def a146 : AFunc := ⟨c146, [.tmp 4], true⟩
def c147 : ACode :=
.seq (
.region [Q 2 (.mov (.c (.one (dc (.sl [] true)))))]) (
.seq (
.region [Q 3 (.mov (.c (.one (dc (.sl [] true)))))]) (
.seq (
.seq (
.region [V 6 0,
Q 7 (.len .sl (.t 6)),
Q 8 (.mov (ci 0))]) (
.block 0 (
.loop (
.seq (
.region [Q 9 (.bin .lss .scalar (.t 8) (.t 7))]) (
.seq (
.cond (.t 9) (
.skip) (
.exit 0)) (
.seq (
.block 1 (
.seq (
.region [Q 10 (.iaddr 3 none (.t 6) (.t 8)),
Q 11 (.load true 3 (.t 10)),
M 5 (.alloc 98 3 zl6),
S 3 5 11]) (
.draw [W 0 12 3 0,
D 1 13 (.faddr 0 (.t 5)) 0,
D 2 14 (.load true 2 (.t 13)) 2,
D 3 15 (.faddr 2 (.t 5)) 0,
D 4 16 (.load false 1 (.t 15)) 8,
⟨5, ⟨some 17, .e (.append 128 4 40 (.c (.one (dc (.sl [] true)))) (.t 16)), none, 24⟩⟩,
D 6 18 (.build zl6 [(0, 2, (.t 14)), (2, 1, (.t 17))]) 62,
⟨7, ⟨some 19, .m (.bslice 98 3 1 zl6 [(0, 3, (.t 18))]), none, 126⟩⟩,
⟨8, ⟨some 20, .e (.append 98 3 40 (.t 12) (.t 19)), none, 255⟩⟩,
W 9 3 20 511]))) (
.region [Q 21 (.bin .add .scalar (.t 8) (ci 1)),
V 8 21]))))))) (
.seq (
.region [V 22 3,
V 2 22]) (
.ret))))
def a147 : AFunc := ⟨c147, [.tmp 2], false⟩
def c148 : ACode :=
.seq (
.region [M 2 (.box 98 3 (.t 0)),
Q 3 (.mov (cb false))]) (
.seq (
.seq (
.region [Q 5 (.load false 1 (.t 1)),
Q 6 (.len .sl (.t 5)),
Q 7 (.bin .eql .scalar (.t 6) (ci 0))]) (
.cond (.t 7) (
.seq (
.region [Q 3 (.mov (cb false))]) (
.ret)) (
.skip))) (
.seq (
.region [Q 8 (.load false 1 (.t 1)),
Q 9 (.load false 1 (.t 1)),
Q 10 (.len .sl (.t 9)),
Q 11 (.bin .sub .scalar (.t 10) (ci 1)),
Q 12 (.iaddr 3 none (.t 8) (.t 11)),
Q 13 (.load true 3 (.t 12)),
M 4 (.alloc 98 3 zl6),
S 3 4 13]) (
.seq (
.region [Q 14 (.faddr 0 (.t 4)),
Q 15 (.faddr 1 (.t 14)),
Q 16 (.load false 1 (.t 15)),
Q 17 (.faddr 0 (.t 2)),
Q 18 (.faddr 0 (.t 17)),
Q 19 (.load false 1 (.t 18)),
Q 20 (.bin .eql .scalar (.t 16) (.t 19)),
V 21 20,
G 22 (.faddr 2 (.t 4)) 21 true,
G 23 (.load false 1 (.t 22)) 21 true,
G 24 (.faddr 2 (.t 2)) 21 true,
G 25 (.load false 1 (.t 24)) 21 true,
⟨some 26, .e (.callf 146 [(.t 23), (.t 25)]), some (21, true), 0⟩,
Q 27 (.pick (.t 21) (.t 26) (cb false)),
V 3 27]) (
.ret))))
def a148 : AFunc := ⟨c148, [.tmp 3], true⟩
def c149 : ACode :=
.seq (
.region [M 1 (.box 116 8 (.t 0)),
Q 2 (.mov (cb false))]) (
.seq (
.seq (
.region [Q 4 (.faddr 0 (.t 1)),
Q 5 (.load false 1 (.t 4))]) (
.block 0 (
.seq (
.region [Q 7 (.bin .eql .scalar (.t 5) (ci 3)),
V 6 7]) (
.cond (.t 6) (
.seq (
.region [Q 8 (.faddr 5 (.t 1)),
Q 9 (.load true 3 (.t 8)),
E 10 (.callf 144 [(.t 9)]),
V 11 10,
G 12 (.faddr 1 (.t 1)) 11 true,
G 13 (.load false 1 (.t 12)) 11 true,
G 14 (.faddr 5 (.t 1)) 11 true,
G 15 (.faddr 0 (.t 14)) 11 true,
G 16 (.load false 1 (.t 15)) 11 true,
G 17 (.bin .eql .scalar (.t 13) (.t 16)) 11 true,
Q 18 (.pick (.t 11) (.t 17) (cb false)),
V 19 18,
G 20 (.faddr 2 (.t 1)) 19 true,
G 21 (.load false 1 (.t 20)) 19 true,
G 22 (.len .sl (.t 21)) 19 true,
G 23 (.bin .eql .scalar (.t 22) (ci 0)) 19 true,
Q 24 (.pick (.t 19) (.t 23) (cb false)),
V 25 24,
G 26 (.faddr 3 (.t 1)) 25 true,
G 27 (.load true 2 (.t 26)) 25 true,
G 28 (.build zl7 []) 25 true,
G 29 (.bin .eql (.agg [.int, .int]) (.t 27) (.t 28)) 25 true,
Q 30 (.pick (.t 25) (.t 29) (cb false)),
V 2 30]) (
.ret)) (
.seq (
.seq (
.region [Q 32 (.bin .eql .scalar (.t 5) (ci 1)),
V 31 32]) (
.cond (.t 31) (
.skip) (
.region [Q 33 (.bin .eql .scalar (.t 5) (ci 2)),
V 31 33]))) (
.cond (.t 31) (
.seq (
.region [Q 3 (.mov (ci 16))]) (
.seq (
.seq (
.region [Q 34 (.faddr 0 (.t 1)),
Q 35 (.load false 1 (.t 34)),
Q 36 (.bin .eql .scalar (.t 35) (ci 2))]) (
.cond (.t 36) (
.region [Q 3 (.mov (ci 8))]) (
.skip))) (
.seq (
.region [Q 37 (.faddr 1 (.t 1)),
Q 38 (.load false 1 (.t 37)),
E 39 (.callf 216 [(.t 38)]),
V 40 39,
G 41 (.faddr 2 (.t 1)) 40 true,
G 42 (.load false 1 (.t 41)) 40 true,
G 43 (.mov (.t 3)) 40 true,
⟨some 44, .e (.callf 218 [(.t 42), (.t 43)]), some (40, true), 0⟩,
Q 45 (.pick (.t 40) (.t 44) (cb false)),
V 46 45,
G 47 (.faddr 3 (.t 1)) 46 true,
G 48 (.load true 2 (.t 47)) 46 true,
⟨some 49, .e (.callf 219 [(.t 48)]), some (46, true), 0⟩,
Q 50 (.pick (.t 46) (.t 49) (cb false)),
V 51 50,
G 52 (.faddr 5 (.t 1)) 51 true,
G 53 (.load true 3 (.t 52)) 51 true,
G 54 (.build zl29 []) 51 true,
⟨some 55, .e (.callf 220 [(.t 53), (.t 54)]), some (51, true), 0⟩,
Q 56 (.pick (.t 51) (.t 55) (cb false)),
V 2 56]) (
.ret)))) (
.skip))))))) (
.seq (
.region [Q 2 (.mov (cb false))]) (
.ret)))
def a149 : AFunc := ⟨c149, [.tmp 2], true⟩
def c150 : ACode :=
.seq (
.region [M 2 (.box 36 3 (.t 0)),
M 3 (.box 36 3 (.t 1)),
Q 4 (.mov (cb false))]) (
.seq (
.seq (
.region [Q 7 (.load true 3 (.t 2)),
E 8 (.callf 144 [(.t 7)]),
Q 9 (.un .not (.t 8)),
V 10 9,
G 11 (.load true 3 (.t 3)) 10 false,
⟨some 12, .e (.callf 144 [(.t 11)]), some (10, false), 0⟩,
G 13 (.un .not (.t 12)) 10 false,
Q 14 (.pick (.t 10) (cb true) (.t 13)),
V 15 14,
G 16 (.faddr 1 (.t 2)) 15 false,
G 17 (.load false 1 (.t 16)) 15 false,
G 18 (.len .sl (.t 17)) 15 false,
G 19 (.faddr 1 (.t 3)) 15 false,
G 20 (.load false 1 (.t 19)) 15 false,
G 21 (.len .sl (.t 20)) 15 false,
G 22 (.bin .gtr .scalar (.t 18) (.t 21)) 15 false,
Q 23 (.pick (.t 15) (cb true) (.t 22))]) (
.cond (.t 23) (
.seq (
.region [Q 4 (.mov (cb false))]) (
.ret)) (
.skip))) (
.seq (
.seq (
.region [Q 24 (.faddr 1 (.t 3)),
Q 25 (.load false 1 (.t 24)),
Q 26 (.faddr 1 (.t 2)),
Q 27 (.load false 1 (.t 26)),
Q 28 (.len .sl (.t 27)),
Q 29 (.slice 3 (.t 25) (some (.t 28)) none none),
Q 30 (.len .sl (.t 29)),
Q 31 (.mov (ci 0))]) (
.block 0 (
.loop (
.seq (
.region [Q 32 (.bin .lss .scalar (.t 31) (.t 30))]) (
.seq (
.cond (.t 32) (
.skip) (
.exit 0)) (
.seq (
.block 1 (
.seq (
.region [Q 33 (.iaddr 3 none (.t 29) (.t 31)),
Q 34 (.load true 3 (.t 33)),
M 6 (.alloc 185 3 zl26),
S 3 6 34]) (
.seq (
.region [Q 35 (.faddr 2 (.t 6)),
Q 36 (.load false 1 (.t 35))]) (
.cond (.t 36) (
.seq (
.region [Q 4 (.mov (cb false))]) (
.ret)) (
.skip))))) (
.region [Q 37 (.bin .add .scalar (.t 31) (ci 1)),
V 31 37]))))))) (
.seq (
.region [Q 38 (.faddr 1 (.t 3)),
Q 39 (.load false 1 (.t 38)),
Q 40 (.faddr 1 (.t 2)),
Q 41 (.load false 1 (.t 40)),
Q 42 (.len .sl (.t 41)),
Q 43 (.slice 3 (.t 39) none (some (.t 42)) none),
Q 44 (.faddr 1 (.t 3)),
S 1 44 43]) (
.seq (
.region [Q 45 (.load true 3 (.t 2)),
Q 46 (.load true 3 (.t 3)),
E 47 (.callf 220 [(.t 45), (.t 46)]),
V 4 47]) (
.ret)))))
def a150 : AFunc := ⟨c150, [.tmp 4], true⟩
def c151 : ACode :=
.seq (
.region [M 2 (.box 36 3 (.t 0)),
Q 4 (.mov (cb false))]) (
.seq (
.seq (
.region [V 7 1,
Q 8 (.len .sl (.t 7)),
Q 9 (.faddr 2 (.t 2)),
Q 10 (.load false 1 (.t 9)),
Q 11 (.bin .neq .scalar (.t 8) (.t 10))]) (
.cond (.t 11) (
.seq (
.region [Q 4 (.mov (cb false))]) (
.ret)) (
.skip))) (
.seq (
.seq (
.region [V 12 1,
Q 13 (.len .sl (.t 12)),
Q 14 (.mov (ci 0))]) (
.block 0 (
.loop (
.seq (
.region [Q 15 (.bin .lss .scalar (.t 14) (.t 13))]) (
.seq (
.cond (.t 15) (
.skip) (
.exit 0)) (
.seq (
.block 1 (
.seq (
.region [V 16 14,
Q 17 (.iaddr 4 none (.t 12) (.t 14)),
Q 18 (.load true 4 (.t 17)),
M 6 (.alloc 128 4 zl5),
V 5 16,
S 4 6 18]) (
.seq (
.draw [D 0 19 (.faddr 0 (.t 6)) 0,
D 1 20 (.load false 1 (.t 19)) 1,
D 2 21 (.faddr 1 (.t 2)) 0,
D 3 22 (.load false 1 (.t 21)) 4,
W 4 23 5 0,
D 5 24 (.iaddr 3 none (.t 22) (.t 23)) 28,
D 6 25 (.faddr 1 (.t 24)) 60,
D 7 26 (.load false 1 (.t 25)) 124,
D 8 27 (.bin .neq .scalar (.t 20) (.t 26)) 255]) (
.cond (.t 27) (
.seq (
.region [Q 4 (.mov (cb false))]) (
.ret)) (
.skip))))) (
.region [Q 28 (.bin .add .scalar (.t 14) (ci 1)),
V 14 28]))))))) (
.seq (
.region [Q 4 (.mov (cb true))]) (
.ret))))
def a151 : AFunc := ⟨c151, [.tmp 4], true⟩
def c152 : ACode :=
.seq (
.region [Q 2 (.mov (cs []))]) (
.seq (
.seq (
.region [V 6 0,
E 7 (.callf 221 [(.t 6)]),
Q 8 (.un .not (.t 7))]) (
.cond (.t 8) (
.seq (
.region [Q 2 (.mov (cs []))]) (
.ret)) (
.skip))) (
.seq (
.region [Q 3 (.mov (cs []))]) (
.seq (
.seq (
.region [V 9 0,
Q 10 (.len .sl (.t 9)),
Q 11 (.mov (ci 0))]) (
.block 0 (
.loop (
.seq (
.region [Q 12 (.bin .lss .scalar (.t 11) (.t 10))]) (
.seq (
.cond (.t 12) (
.skip) (
.exit 0)) (
.seq (
.block 1 (
.seq (
.region [Q 13 (.iaddr 4 none (.t 9) (.t 11)),
Q 14 (.load true 4 (.t 13)),
M 5 (.alloc 128 4 zl5),
S 4 5 14]) (
.region [V 15 3,
Q 16 (.load true 4 (.t 5)),
E 17 (.callf 222 [(.t 16)]),
Q 18 (.bin .add .scalar (.t 15) (.t 17)),
V 3 18]))) (
.region [Q 19 (.bin .add .scalar (.t 11) (ci 1)),
V 11 19]))))))) (
.seq (
.region [V 20 3,
Q 21 (.bin .add .scalar (.t 20) (cs [0])),
V 2 21]) (
.ret)))))
def a152 : AFunc := ⟨c152, [.tmp 2], true⟩
def c153 : ACode :=
.seq (
.region [M 2 (.box 36 3 (.t 0)),
Q 4 (.mov (.c (.one (dc (.sl [] true)))))]) (
.seq (
.seq (
.region [Q 5 (.load true 3 (.t 2)),
V 6 1,
E 7 (.callf 145 [(.t 5), (.t 6)]),
Q 8 (.bin .neq .scalar (.t 7) (ci 0))]) (
.cond (.t 8) (
.seq (
.region [Q 4 (.mov (.c (.one (dc (.sl [] true)))))]) (
.ret)) (
.skip))) (
.seq (
.region [V 9 1,
Q 10 (.faddr 2 (.t 2)),
Q 11 (.load false 1 (.t 10)),
Q 12 (.slice 4 (.t 9) none (some (.t 11)) none),
E 13 (.append 128 4 40 (.c (.one (dc (.sl [] true)))) (.t 12)),
V 4 13]) (
.ret)))
def a153 : AFunc := ⟨c153, [.tmp 4], true⟩
def c154 : ACode :=
.seq (
.region [Q 2 (.mov (cb false))]) (
.seq (
.seq (
.region [V 5 0,
Q 6 (.len .sl (.t 5)),
Q 7 (.mov (ci 0))]) (
.block 0 (
.loop (
.seq (
.region [Q 8 (.bin .lss .scalar (.t 7) (.t 6))]) (
.seq (
.cond (.t 8) (
.skip) (
.exit 0)) (
.seq (
.block 1 (
.seq (
.region [Q 9 (.iaddr 4 none (.t 5) (.t 7)),
Q 10 (.load true 4 (.t 9)),
M 4 (.alloc 128 4 zl5),
S 4 4 10]) (
.seq (
.region [Q 11 (.load true 4 (.t 4)),
E 12 (.callf 158 [(.t 11)]),
Q 13 (.un .not (.t 12))]) (
.cond (.t 13) (
.seq (
.region [Q 2 (.mov (cb false))]) (
.ret)) (
.skip))))) (
.region [Q 14 (.bin .add .scalar (.t 7) (ci 1)),
V 7 14]))))))) (
.seq (
.region [Q 2 (.mov (cb true))]) (
.ret)))
def a154 : AFunc := ⟨c154, [.tmp 2], true⟩
def c155 : ACode :=
.seq (
.region [M 2 (.box 26 2 (.t 0)),
M 3 (.box 26 2 (.t 1)),
Q 4 (.mov (.c (.one (dc (.sl [] true)))))]) (
.seq (
.region [Q 8 (.load true 2 (.t 2)),
Q 9 (.load true 2 (.t 3)),
E 10 (.callf 215 [(.t 8), (.t 9)]),
V 7 10,
Q 11 (.extract 0 (.t 7)),
Q 12 (.extract 1 (.t 7)),
M 5 (.alloc 26 2 zl7),
S 2 5 11,
V 6 12]) (
.seq (
.seq (
.region [V 13 6,
Q 14 (.un .not (.t 13))]) (
.cond (.t 14) (
.seq (
.region [Q 15 (.load true 2 (.t 2)),
M 16 (.bslice 26 2 1 zl7 [(0, 2, (.t 15))]),
E 17 (.callf 223 [(.t 16)]),
V 4 17]) (
.ret)) (
.skip))) (
.seq (
.region [Q 18 (.faddr 0 (.t 2)),
Q 19 (.load false 1 (.t 18)),
Q 20 (.faddr 0 (.t 5)),
Q 21 (.load false 1 (.t 20)),
Q 22 (.build zl7 [(0, 1, (.t 19)), (1, 1, (.t 21))]),
Q 23 (.faddr 1 (.t 5)),
Q 24 (.load false 1 (.t 23)),
Q 25 (.faddr 1 (.t 2)),
Q 26 (.load false 1 (.t 25)),
Q 27 (.build zl7 [(0, 1, (.t 24)), (1, 1, (.t 26))]),
M 28 (.bslice 26 2 2 zl3 [(0, 2, (.t 22)), (2, 2, (.t 27))]),
E 29 (.callf 223 [(.t 28)]),
V 4 29]) (
.ret))))
def a155 : AFunc := ⟨c155, [.tmp 4], true⟩
def c156 : ACode :=
.seq (
.region [M 3 (.box 30 1 (.t 1)),
Q 4 (.mov (.c (.one (dc (.sl [] true)))))]) (
.seq (
.region [Q 9 (.mkfn (.func 224) 224 [] [(.t 3)]),
V 5 9]) (
.seq (
.region [Q 6 (.mov (.c (.one (dc (.sl [] true)))))]) (
.seq (
.seq (
.region [V 10 0,
Q 11 (.len .sl (.t 10)),
Q 12 (.mov (ci 0))]) (
.block 0 (
.loop (
.seq (
.region [Q 13 (.bin .lss .scalar (.t 12) (.t 11))]) (
.seq (
.cond (.t 13) (
.skip) (
.exit 0)) (
.seq (
.block 1 (
.seq (
.region [Q 14 (.iaddr 3 none (.t 10) (.t 12)),
Q 15 (.load true 3 (.t 14)),
M 8 (.alloc 98 3 zl6),
S 3 8 15]) (
.seq (
.region [V 16 5,
Q 17 (.load true 3 (.t 8)),
E 18 (.callv (.t 16) [(.t 17)]),
Q 19 (.un .not (.t 18))]) (
.cond (.t 19) (
.region [V 20 6,
Q 21 (.load true 3 (.t 8)),
M 22 (.bslice 98 3 1 zl6 [(0, 3, (.t 21))]),
E 23 (.append 98 3 40 (.t 20) (.t 22)),
V 6 23]) (
.skip))))) (
.region [Q 24 (.bin .add .scalar (.t 12) (ci 1)),
V 12 24]))))))) (
.seq (
.region [V 25 6,
E 26 (.callf 147 [(.t 25)]),
V 4 26]) (
.ret)))))
def a156 : AFunc := ⟨c156, [.tmp 4], true⟩
def c157 : ACode :=
.seq (
.region [Q 2 (.mov (cs []))]) (
.seq (
.region [V 3 0,
Q 4 (.conv (.int .u8) (.t 3)),
M 5 (.bslice 5 1 1 [dc (.int .u8 0)] [(0, 1, (.t 4))]),
Q 6 (.conv .b2s (.t 5)),
V 2 6]) (
.ret))
def a157 : AFunc := ⟨c157, [.tmp 2], true⟩
def c158 : ACode :=
.seq (
.region [M 1 (.box 128 4 (.t 0)),
Q 2 (.mov (cb false))]) (
.seq (
.region [Q 4 (.faddr 0 (.t 1)),
Q 5 (.load false 1 (.t 4)),
Q 6 (.build zl5 [(0, 1, (.t 5))]),
M 3 (.alloc 128 4 zl5),
S 4 3 6]) (
.seq (
.seq (
.region [Q 7 (.faddr 0 (.t 1)),
Q 8 (.load false 1 (.t 7))]) (
.block 0 (
.seq (
.region [Q 10 (.bin .eql .scalar (.t 8) (ci 0)),
V 9 10]) (
.cond (.t 9) (
.skip) (
.seq (
.region [Q 12 (.bin .eql .scalar (.t 8) (ci 1)),
V 11 12]) (
.cond (.t 11) (
.region [Q 13 (.faddr 1 (.t 1)),
Q 14 (.load false 1 (.t 13)),
Q 15 (.bin .and .scalar (.t 14) (ci 1)),
Q 16 (.faddr 1 (.t 3)),
S 1 16 15]) (
.seq (
.region [Q 18 (.bin .eql .scalar (.t 8) (ci 2)),
V 17 18]) (
.cond (.t 17) (
.region [Q 19 (.faddr 1 (.t 1)),
Q 20 (.load false 1 (.t 19)),
Q 21 (.faddr 1 (.t 3)),
S 1 21 20]) (
.seq (
.region [Q 23 (.bin .eql .scalar (.t 8) (ci 3)),
V 22 23]) (
.cond (.t 22) (
.region [Q 24 (.faddr 2 (.t 1)),
Q 25 (.load false 1 (.t 24)),
Q 26 (.bitsf (.t 25)),
E 27 (.callf 225 [(.t 26)]),
Q 28 (.faddr 2 (.t 3)),
S 1 28 27]) (
.seq (
.seq (
.region [Q 30 (.bin .eql .scalar (.t 8) (ci 4)),
V 29 30]) (
.cond (.t 29) (
.skip) (
.region [Q 31 (.bin .eql .scalar (.t 8) (ci 5)),
V 29 31]))) (
.cond (.t 29) (
.region [Q 32 (.faddr 3 (.t 1)),
Q 33 (.load false 1 (.t 32)),
Q 34 (.faddr 3 (.t 3)),
S 1 34 33]) (
.seq (
.region [Q 2 (.mov (cb false))]) (
.ret)))))))))))))) (
.seq (
.region [Q 35 (.load true 4 (.t 1)),
Q 36 (.load true 4 (.t 3)),
Q 37 (.bin .eql (.agg [.int, .int, .int, .str]) (.t 35) (.t 36)),
V 38 37,
G 39 (.faddr 3 (.t 1)) 38 true,
G 40 (.load false 1 (.t 39)) 38 true,
G 41 (.len .str (.t 40)) 38 true,
G 42 (.bin .leq .scalar (.t 41) (ci 4096)) 38 true,
Q 43 (.pick (.t 38) (.t 42) (cb false)),
V 2 43]) (
.ret))))
def a158 : AFunc := ⟨c158, [.tmp 2], true⟩
def c159 : ACode :=
.seq (
.region [M 1 (.box 128 4 (.t 0)),
Q 2 (.mov (cs []))]) (
.seq (
.seq (
.region [Q 5 (.load true 4 (.t 1)),
E 6 (.callf 158 [(.t 5)]),
Q 7 (.un .not (.t 6))]) (
.cond (.t 7) (
.seq (
.region [Q 2 (.mov (cs []))]) (
.ret)) (
.skip))) (
.seq (
.region [Q 8 (.faddr 0 (.t 1)),
Q 9 (.load false 1 (.t 8)),
Q 10 (.conv (.int .u64) (.t 9)),
E 11 (.callf 157 [(.t 10)]),
V 3 11]) (
.seq (
.seq (
.region [Q 12 (.faddr 0 (.t 1)),
Q 13 (.load false 1 (.t 12))]) (
.block 0 (
.seq (
.region [Q 15 (.bin .eql .scalar (.t 13) (ci 1)),
V 14 15]) (
.cond (.t 14) (
.region [V 16 3,
Q 17 (.faddr 1 (.t 1)),
Q 18 (.load false 1 (.t 17)),
Q 19 (.conv (.int .u64) (.t 18)),
E 20 (.callf 157 [(.t 19)]),
Q 21 (.bin .add .scalar (.t 16) (.t 20)),
V 3 21]) (
.seq (
.region [Q 23 (.bin .eql .scalar (.t 13) (ci 2)),
V 22 23]) (
.cond (.t 22) (
.region [V 24 3,
Q 25 (.faddr 1 (.t 1)),
Q 26 (.load false 1 (.t 25)),
E 27 (.callf 227 [(.t 26)]),
Q 28 (.bin .add .scalar (.t 24) (.t 27)),
V 3 28]) (
.seq (
.region [Q 30 (.bin .eql .scalar (.t 13) (ci 3)),
V 29 30]) (
.cond (.t 29) (
.seq (
.region [Q 4 (.mov (ci 7))]) (
.block 1 (
.loop (
.seq (
.seq (
.region [V 31 4,
Q 32 (.bin .geq .scalar (.t 31) (ci 0))]) (
.cond (.t 32) (
.skip) (
.exit 1))) (
.seq (
.block 2 (
.region [V 35 3,
Q 36 (.faddr 2 (.t 1)),
Q 37 (.load false 1 (.t 36)),
V 38 4,
Q 39 (.bin .mul .scalar (ci 8) (.t 38)),
Q 40 (.bin .shr .scalar (.t 37) (.t 39)),
E 41 (.callf 157 [(.t 40)]),
Q 42 (.bin .add .scalar (.t 35) (.t 41)),
V 3 42])) (
.region [V 33 4,
Q 34 (.bin .sub .scalar (.t 33) (ci 1)),
V 4 34])))))) (
.seq (
.seq (
.region [Q 44 (.bin .eql .scalar (.t 13) (ci 4)),
V 43 44]) (
.cond (.t 43) (
.skip) (
.region [Q 45 (.bin .eql .scalar (.t 13) (ci 5)),
V 43 45]))) (
.cond (.t 43) (
.region [V 46 3,
Q 47 (.faddr 3 (.t 1)),
Q 48 (.load false 1 (.t 47)),
E 49 (.callf 111 [(.t 48)]),
Q 50 (.bin .add .scalar (.t 46) (.t 49)),
V 3 50]) (
.skip))))))))))) (
.seq (
.region [V 51 3,
V 2 51]) (
.ret)))))
def a159 : AFunc := ⟨c159, [.tmp 2], true⟩
def c160 : ACode :=
.seq (
.region [Q 2 (.mov (.c (.one (dc (.int .u64 0)))))]) (
.seq (
.region [V 3 0,
V 4 0,
Q 5 (.mkfn (.func 229) 229 [(.t 4)] []),
E 6 (.callf 228 [(.t 3), (.t 5)]),
V 2 6]) (
.ret))
def a160 : AFunc := ⟨c160, [.tmp 2], false⟩
def c161 : ACode :=
.seq (
.region [M 2 (.alloc 36 3 zl29),
Q 3 (.mov (ci 0))]) (
.seq (
.region [V 8 0,
E 9 (.callf 114 [(.t 8)]),
V 4 9]) (
.seq (
.region [V 10 4,
E 11 (.callf 162 [(.t 10)]),
V 12 4,
E 13 (.callf 160 [(.t 12)]),
Q 14 (.mnmx false (.t 13) (.c (.one (dc (.int .u64 9))))),
Q 15 (.conv (.int .i64) (.t 14)),
Q 16 (.build zl29 [(0, 1, (.t 11)), (2, 1, (.t 15))]),
M 5 (.alloc 36 3 zl29),
S 3 5 16]) (
.seq (
.seq (
.region [V 17 4,
E 18 (.callf 160 [(.t 17)]),
V 6 18]) (
.block 0 (
.loop (
.seq (
.seq (
.region [V 19 6,
Q 20 (.bin .gtr .scalar (.t 19) (.c (.one (dc (.int .u64 0))))),
V 21 20,
G 22 (.mov (.t 4)) 21 true,
⟨some 23, .e (.callf 119 [(.t 22)]), some (21, true), 0⟩,
G 24 (.bin .eql .scalar (.t 23) (ci 0)) 21 true,
Q 25 (.pick (.t 21) (.t 24) (cb false)),
V 26 25,
G 27 (.faddr 1 (.t 5)) 26 true,
G 28 (.load false 1 (.t 27)) 26 true,
G 29 (.len .sl (.t 28)) 26 true,
G 30 (.bin .leq .scalar (.t 29) (ci 16)) 26 true,
Q 31 (.pick (.t 26) (.t 30) (cb false))]) (
.cond (.t 31) (
.skip) (
.exit 0))) (
.seq (
.block 1 (
.seq (
.region [V 34 4,
E 35 (.callf 162 [(.t 34)]),
V 36 4,
E 37 (.callf 160 [(.t 36)]),
Q 38 (.mnmx false (.t 37) (.c (.one (dc (.int .u64 6))))),
Q 39 (.conv (.int .i64) (.t 38)),
Q 40 (.build zl26 [(0, 1, (.t 35)), (1, 1, (.t 39))]),
M 7 (.alloc 185 3 zl26),
S 3 7 40]) (
.seq (
.region [V 41 4,
E 42 (.callf 160 [(.t 41)]),
Q 43 (.bin .gtr .scalar (.t 42) (.c (.one (dc (.int .u64 0))))),
Q 44 (.faddr 2 (.t 7)),
S 1 44 43]) (
.region [Q 45 (.faddr 1 (.t 5)),
Q 46 (.load false 1 (.t 45)),
Q 47 (.load true 3 (.t 7)),
M 48 (.bslice 185 3 1 zl26 [(0, 3, (.t 47))]),
E 49 (.append 185 3 32 (.t 46) (.t 48)),
Q 50 (.faddr 1 (.t 5)),
S 1 50 49])))) (
.region [V 32 6,
Q 33 (.bin .sub .scalar (.t 32) (.c (.one (dc (.int .u64 1))))),
V 6 33])))))) (
.seq (
.seq (
.region [V 51 4,
E 52 (.callf 119 [(.t 51)]),
Q 53 (.bin .neq .scalar (.t 52) (ci 0)),
V 54 53,
G 55 (.load true 3 (.t 5)) 54 false,
⟨some 56, .e (.callf 112 [(.t 55)]), some (54, false), 0⟩,
G 57 (.mov (.t 0)) 54 false,
G 58 (.bin .neq .scalar (.t 56) (.t 57)) 54 false,
Q 59 (.pick (.t 54) (cb true) (.t 58))]) (
.cond (.t 59) (
.seq (
.region [Q 60 (.build zl29 []),
S 3 2 60,
Q 3 (.mov (ci 7))]) (
.ret)) (
.skip))) (
.seq (
.region [Q 61 (.load true 3 (.t 5)),
S 3 2 61,
Q 3 (.mov (ci 0))]) (
.ret))))))
def a161 : AFunc := ⟨c161, [.cell 2 true 3, .tmp 3], true⟩
def c162 : ACode :=
.seq (
.region [M 1 (.box 186 1 (.t 0)),
Q 2 (.mov (cs []))]) (
.seq (
.region [Q 3 (.load false 1 (.t 1)),
Q 4 (.mkfn (.func 231) 231 [] [(.t 1)]),
E 5 (.callf 230 [(.t 3), (.t 4)]),
V 2 5]) (
.ret))
def a162 : AFunc := ⟨c162, [.tmp 2], false⟩
def c163 : ACode :=
.seq (
.region [M 1 (.box 189 1 (.t 0)),
M 2 (.alloc 26 2 zl7)]) (
.seq (
.region [Q 4 (.load true 1 (.t 1)),
E 5 (.callf 115 [(.t 4)]),
V 3 5]) (
.seq (
.region [V 6 3,
Q 7 (.load true 1 (.t 1)),
E 8 (.callf 115 [(.t 7)]),
Q 9 (.build zl7 [(0, 1, (.t 6)), (1, 1, (.t 8))]),
S 2 2 9]) (
.ret)))
def a163 : AFunc := ⟨c163, [.cell 2 true 2], false⟩
def c164 : ACode :=
.seq (
.region [Q 2 (.mov (.c (.one (dc (.sl [] true)))))]) (
.seq (
.region [V 3 0,
V 4 0,
Q 5 (.mkfn (.func 234) 234 [(.t 4)] []),
E 6 (.callf 233 [(.t 3), (.t 5)]),
V 2 6]) (
.ret))
def a164 : AFunc := ⟨c164, [.tmp 2], false⟩
def c165 : ACode :=
.seq (
.region [Q 4 (.mov (cb false))]) (
.seq (
.seq (
.region [V 7 0,
Q 8 (.nilck (.t 7)),
Q 9 (.faddr 0 (.t 8)),
Q 10 (.load false 1 (.t 9)),
Q 11 (.len .sl (.t 10)),
Q 12 (.mov (ci 0))]) (
.block 0 (
.loop (
.seq (
.region [Q 13 (.bin .lss .scalar (.t 12) (.t 11))]) (
.seq (
.cond (.t 13) (
.skip) (
.exit 0)) (
.seq (
.block 1 (
.seq (
.region [V 14 12,
Q 15 (.iaddr 4 none (.t 10) (.t 12)),
Q 16 (.load true 4 (.t 15)),
M 6 (.alloc 102 4 zl12),
V 5 14,
S 4 6 16]) (
.seq (
.seq (
.region [Q 17 (.faddr 1 (.t 6)),
Q 18 (.load true 3 (.t 17)),
E 19 (.callf 144 [(.t 18)]),
Q 20 (.un .not (.t 19)),
V 21 20,
G 22 (.faddr 0 (.t 6)) 21 false,
G 23 (.load false 1 (.t 22)) 21 false,
G 24 (.mov (.t 1)) 21 false,
G 25 (.bin .gtr .scalar (.t 23) (.t 24)) 21 false,
Q 26 (.pick (.t 21) (cb true) (.t 25))]) (
.cond (.t 26) (
.seq (
.region [Q 4 (.mov (cb false))]) (
.ret)) (
.skip))) (
.seq (
.draw [W 0 27 5 0,
D 1 28 (.bin .gtr .scalar (.t 27) (ci 0)) 1,
W 2 29 28 3,
⟨3, ⟨some 30, .q (.faddr 0 (.t 6)), some (29, true), 7⟩⟩,
⟨4, ⟨some 31, .q (.load false 1 (.t 30)), some (29, true), 15⟩⟩,
⟨5, ⟨some 32, .q (.mov (.t 0)), some (29, true), 7⟩⟩,
⟨6, ⟨some 33, .q (.nilck (.t 32)), some (29, true), 39⟩⟩,
⟨7, ⟨some 34, .q (.faddr 0 (.t 33)), some (29, true), 103⟩⟩,
⟨8, ⟨some 35, .q (.load false 1 (.t 34)), some (29, true), 231⟩⟩,
⟨9, ⟨some 36, .q (.mov (.t 5)), some (29, true), 7⟩⟩,
⟨10, ⟨some 37, .q (.bin .sub .scalar (.t 36) (ci 1)), some (29, true), 519⟩⟩,
⟨11, ⟨some 38, .q (.iaddr 4 none (.t 35) (.t 37)), some (29, true), 2023⟩⟩,
⟨12, ⟨some 39, .q (.faddr 0 (.t 38)), some (29, true), 4071⟩⟩,
⟨13, ⟨some 40, .q (.load false 1 (.t 39)), some (29, true), 8167⟩⟩,
⟨14, ⟨some 41, .q (.bin .leq .scalar (.t 31) (.t 40)), some (29, true), 16383⟩⟩,
⟨15, ⟨some 42, .q (.mov (.t 41)), some (29, true), 32767⟩⟩,
⟨16, ⟨some 43, .q (.mov (.t 0)), some (42, false), 65535⟩⟩,
⟨17, ⟨some 44, .q (.nilck (.t 43)), some (42, false), 131071⟩⟩,
⟨18, ⟨some 45, .q (.faddr 0 (.t 44)), some (42, false), 262143⟩⟩,
⟨19, ⟨some 46, .q (.load false 1 (.t 45)), some (42, false), 524287⟩⟩,
⟨20, ⟨some 47, .q (.mov (.t 5)), some (42, false), 65535⟩⟩,
⟨21, ⟨some 48, .q (.bin .sub .scalar (.t 47) (ci 1)), some (42, false), 1114111⟩⟩,
⟨22, ⟨some 49, .q (.iaddr 4 none (.t 46) (.t 48)), some (42, false), 4194303⟩⟩,
⟨23, ⟨some 50, .q (.faddr 1 (.t 49)), some (42, false), 8388607⟩⟩,
⟨24, ⟨some 51, .q (.load true 3 (.t 50)), some (42, false), 16777215⟩⟩,
⟨25, ⟨some 52, .q (.faddr 1 (.t 6)), some (42, false), 65535⟩⟩,
⟨26, ⟨some 53, .q (.load true 3 (.t 52)), some (42, false), 33619967⟩⟩,
⟨27, ⟨some 54, .e (.callf 150 [(.t 51), (.t 53)]), some (42, false), 134217727⟩⟩,
⟨28, ⟨some 55, .q (.un .not (.t 54)), some (42, false), 268435455⟩⟩,
⟨29, ⟨some 56, .q (.pick (.t 42) (cb true) (.t 55)), some (29, true), 536870911⟩⟩,
D 30 57 (.pick (.t 29) (.t 56) (cb false)) 1073741823]) (
.cond (.t 57) (
.seq (
.region [Q 4 (.mov (cb false))]) (
.ret)) (
.skip)))))) (
.region [Q 58 (.bin .add .scalar (.t 12) (ci 1)),
V 12 58]))))))) (
.seq (
.region [V 59 0,
Q 60 (.nilck (.t 59)),
Q 61 (.faddr 0 (.t 60)),
Q 62 (.load false 1 (.t 61)),
Q 63 (.len .sl (.t 62)),
Q 64 (.bin .gtr .scalar (.t 63) (ci 0)),
V 4 64]) (
.ret)))
def a165 : AFunc := ⟨c165, [.tmp 4], true⟩
def c166 : ACode :=
.seq (
.region [Q 2 (.mov (.c (.one (dc (.sl [] true))))),
Q 3 (.mov (ci 0))]) (
.seq (
.region [V 6 0,
Q 7 (.build zl24 [(0, 1, (.t 6))]),
M 8 (.box 287 2 (.t 7)),
V 4 8]) (
.seq (
.region [Q 5 (.mov (.c (.one (dc (.sl [] true)))))]) (
.seq (
.block 0 (
.loop (
.seq (
.seq (
.region [V 9 4,
Q 10 (.nilck (.t 9)),
Q 11 (.faddr 1 (.t 10)),
Q 12 (.load false 1 (.t 11)),
Q 13 (.un .not (.t 12)),
V 14 13,
G 15 (.mov (.t 4)) 14 true,
G 16 (.nilck (.t 15)) 14 true,
G 17 (.faddr 0 (.t 16)) 14 true,
G 18 (.load false 1 (.t 17)) 14 true,
G 19 (.bin .neq .scalar (.t 18) (cs [0])) 14 true,
Q 20 (.pick (.t 14) (.t 19) (cb false))]) (
.cond (.t 20) (
.skip) (
.exit 0))) (
.block 1 (
.seq (
.region [V 21 5,
V 22 4,
E 23 (.callf 235 [(.t 22)]),
M 24 (.bslice 128 4 1 zl5 [(0, 4, (.t 23))]),
E 25 (.append 128 4 40 (.t 21) (.t 24)),
V 5 25]) (
.region [V 26 4,
V 27 4,
Q 28 (.nilck (.t 27)),
Q 29 (.faddr 1 (.t 28)),
Q 30 (.load false 1 (.t 29)),
V 31 30,
G 32 (.mov (.t 5)) 31 false,
G 33 (.len .sl (.t 32)) 31 false,
G 34 (.bin .gtr .scalar (.t 33) (ci 8)) 31 false,
Q 35 (.pick (.t 31) (cb true) (.t 34)),
Q 36 (.nilck (.t 26)),
Q 37 (.faddr 1 (.t 36)),
S 1 37 35])))))) (
.seq (
.seq (
.region [V 38 4,
Q 39 (.nilck (.t 38)),
Q 40 (.faddr 1 (.t 39)),
Q 41 (.load false 1 (.t 40))]) (
.cond (.t 41) (
.seq (
.region [Q 2 (.mov (.c (.one (dc (.sl [] true))))),
Q 3 (.mov (ci 7))]) (
.ret)) (
.skip))) (
.seq (
.region [V 42 5,
V 2 42,
Q 3 (.mov (ci 0))]) (
.ret))))))
def a166 : AFunc := ⟨c166, [.tmp 2, .tmp 3], true⟩
def c167 : ACode :=
.seq (
.region [Q 2 (.mov (cs []))]) (
.seq (
.region [V 6 0,
M 7 (.s2b 5 (.t 6)),
V 3 7]) (
.seq (
.seq (
.region [V 8 0,
E 9 (.callf 236 [(.t 8)]),
V 4 9,
Q 5 (.mov (ci 0))]) (
.block 0 (
.loop (
.seq (
.seq (
.region [V 10 5,
Q 11 (.bin .lss .scalar (.t 10) (ci 4))]) (
.cond (.t 11) (
.skip) (
.exit 0))) (
.seq (
.block 1 (
.seq (
.region [V 14 3,
V 15 4,
Q 16 (.conv (.int .u8) (.t 15)),
M 17 (.bslice 5 1 1 [dc (.int .u8 0)] [(0, 1, (.t 16))]),
E 18 (.append 5 1 1 (.t 14) (.t 17)),
V 3 18]) (
.region [V 19 4,
Q 20 (.bin .shr .scalar (.t 19) (.c (.one (dc (.int .u64 8))))),
V 4 20]))) (
.region [V 12 5,
Q 13 (.bin .add .scalar (.t 12) (ci 1)),
V 5 13])))))) (
.seq (
.region [V 21 3,
Q 22 (.conv .b2s (.t 21)),
V 2 22]) (
.ret))))
def a167 : AFunc := ⟨c167, [.tmp 2], true⟩
def c168 : ACode :=
.seq (
.region [Q 2 (.mov (ci 0))]) (
.seq (
.region [V 3 0,
E 4 (.callf 160 [(.t 3)]),
Q 5 (.mnmx false (.t 4) (.c (.one (dc (.int .u64 1099511627777))))),
Q 6 (.conv (.int .i64) (.t 5)),
V 2 6]) (
.ret))
def a168 : AFunc := ⟨c168, [.tmp 2], false⟩
def c169 : ACode :=
.seq (
.region [M 2 (.alloc 116 8 zl11)]) (
.seq (
.region [V 4 0,
E 5 (.callf 168 [(.t 4)]),
Q 6 (.build zl11 [(0, 1, (.t 5))]),
M 3 (.alloc 116 8 zl11),
S 8 3 6]) (
.seq (
.seq (
.region [Q 7 (.faddr 0 (.t 3)),
Q 8 (.load false 1 (.t 7)),
Q 9 (.bin .eql .scalar (.t 8) (ci 3))]) (
.cond (.t 9) (
.seq (
.region [V 11 0,
E 12 (.callf 162 [(.t 11)]),
E 13 (.callf 161 [(.t 12)]),
V 10 13,
Q 14 (.extract 0 (.t 10)),
Q 15 (.extract 1 (.t 10)),
Q 16 (.faddr 5 (.t 3)),
S 3 16 14]) (
.seq (
.region [Q 17 (.faddr 5 (.t 3)),
Q 18 (.faddr 0 (.t 17)),
Q 19 (.load false 1 (.t 18)),
Q 20 (.faddr 1 (.t 3)),
S 1 20 19]) (
.seq (
.region [Q 21 (.load true 8 (.t 3)),
S 8 2 21]) (
.ret)))) (
.skip))) (
.seq (
.region [V 22 0,
E 23 (.callf 162 [(.t 22)]),
Q 24 (.faddr 1 (.t 3)),
S 1 24 23]) (
.seq (
.region [V 25 0,
E 26 (.callf 164 [(.t 25)]),
Q 27 (.faddr 2 (.t 3)),
S 1 27 26]) (
.seq (
.region [V 28 0,
E 29 (.callf 168 [(.t 28)]),
Q 30 (.faddr 3 (.t 3)),
Q 31 (.faddr 0 (.t 30)),
S 1 31 29]) (
.seq (
.region [V 32 0,
E 33 (.callf 168 [(.t 32)]),
Q 34 (.faddr 3 (.t 3)),
Q 35 (.faddr 1 (.t 34)),
S 1 35 33]) (
.seq (
.region [Q 36 (.load true 8 (.t 3)),
S 8 2 36]) (
.ret))))))))
def a169 : AFunc := ⟨c169, [.cell 2 true 8], false⟩
def c170 : ACode :=
.seq (
.region [M 1 (.box 24 3 (.t 0)),
Q 2 (.mov (cs []))]) (
.seq (
.seq (
.region [Q 6 (.load true 3 (.t 1)),
E 7 (.callf 96 [(.t 6)]),
Q 8 (.un .not (.t 7))]) (
.cond (.t 8) (
.seq (
.region [Q 2 (.mov (cs []))]) (
.ret)) (
.skip))) (
.seq (
.draw [D 0 9 (.faddr 0 (.t 1)) 0,
D 1 10 (.load false 1 (.t 9)) 1,
D 3 12 (.faddr 1 (.t 1)) 0,
D 4 13 (.load false 1 (.t 12)) 8,
D 7 16 (.faddr 2 (.t 1)) 0,
D 8 17 (.load false 1 (.t 16)) 128,
D 9 18 (.len .sl (.t 17)) 384,
⟨2, ⟨some 11, .e (.callf 237 [(.t 10)]), none, 3⟩⟩,
⟨5, ⟨some 14, .e (.callf 237 [(.t 13)]), none, 31⟩⟩,
D 6 15 (.bin .add .scalar (.t 11) (.t 14)) 63,
⟨10, ⟨some 19, .e (.callf 237 [(.t 18)]), none, 959⟩⟩,
D 11 20 (.bin .add .scalar (.t 15) (.t 19)) 2047,
W 12 3 20 4095]) (
.seq (
.seq (
.region [Q 21 (.faddr 2 (.t 1)),
Q 22 (.load false 1 (.t 21)),
Q 23 (.len .sl (.t 22)),
Q 24 (.mov (ci 0))]) (
.block 0 (
.loop (
.seq (
.region [Q 25 (.bin .lss .scalar (.t 24) (.t 23))]) (
.seq (
.cond (.t 25) (
.skip) (
.exit 0)) (
.seq (
.block 1 (
.seq (
.region [Q 26 (.iaddr 8 none (.t 22) (.t 24)),
Q 27 (.load true 8 (.t 26)),
M 5 (.alloc 116 8 zl11),
S 8 5 27]) (
.region [V 28 3,
Q 29 (.load true 8 (.t 5)),
E 30 (.callf 238 [(.t 29)]),
Q 31 (.bin .add .scalar (.t 28) (.t 30)),
V 3 31]))) (
.region [Q 32 (.bin .add .scalar (.t 24) (ci 1)),
V 24 32]))))))) (
.seq (
.seq (
.region [V 33 3,
Q 34 (.len .str (.t 33)),
Q 35 (.bin .gtr .scalar (.t 34) (ci 100000))]) (
.cond (.t 35) (
.seq (
.region [Q 2 (.mov (cs []))]) (
.ret)) (
.skip))) (
.seq (
.region [V 36 3,
V 2 36]) (
.ret))))))
def a170 : AFunc := ⟨c170, [.tmp 2], true⟩
def c171 : ACode :=
.seq (
.region [M 2 (.box 54 1 (.t 0)),
M 3 (.box 24 3 (.t 1)),
Q 4 (.mov (ci 0))]) (
.seq (
.seq (
.region [Q 9 (.load false 1 (.t 2)),
E 10 (.callf 132 [(.t 9)]),
V 5 10]) (
.seq (
.region [V 11 5,
Q 12 (.bin .neq .scalar (.t 11) (ci 0))]) (
.cond (.t 12) (
.seq (
.region [V 13 5,
V 4 13]) (
.ret)) (
.skip)))) (
.seq (
.region [Q 14 (.load false 1 (.t 2)),
Q 15 (.nilck (.t 14)),
Q 16 (.faddr 2 (.t 15)),
Q 17 (.load false 1 (.t 16)),
E 18 (.callf 19 [(.t 17)]),
V 6 18]) (
.seq (
.seq (
.region [V 19 6,
Q 20 (.load true 3 (.t 3)),
E 21 (.callf 10 [(.t 19), (.t 20)]),
V 7 21]) (
.seq (
.region [V 22 7,
Q 23 (.bin .neq .scalar (.t 22) (ci 0))]) (
.cond (.t 23) (
.seq (
.region [V 24 7,
V 4 24]) (
.ret)) (
.skip)))) (
.seq (
.region [Q 25 (.load true 3 (.t 3)),
E 26 (.callf 170 [(.t 25)]),
M 8 (.alloc 9 1 [dc (.str [])]),
S 1 8 26]) (
.seq (
.seq (
.region [Q 27 (.load false 1 (.t 8)),
Q 28 (.bin .eql .scalar (.t 27) (cs []))]) (
.cond (.t 28) (
.seq (
.region [Q 4 (.mov (ci 19))]) (
.ret)) (
.skip))) (
.seq (
.region [Q 29 (.load false 1 (.t 2)),
V 30 6,
Q 31 (.mkfn (.func 239) 239 [] [(.t 2), (.t 8)]),
E 32 (.callf 188 [(.t 29), (.t 30), (.t 31)]),
V 4 32]) (
.ret)))))))
def a171 : AFunc := ⟨c171, [.tmp 4], false⟩
def c172 : ACode :=
.seq (
.region [M 1 (.box 24 3 (.t 0)),
Q 2 (.mov (cb false))]) (
.seq (
.seq (
.region [Q 3 (.mov (ci 0))]) (
.block 0 (
.loop (
.seq (
.seq (
.region [V 4 3,
Q 5 (.faddr 2 (.t 1)),
Q 6 (.load false 1 (.t 5)),
Q 7 (.len .sl (.t 6)),
Q 8 (.bin .lss .scalar (.t 4) (.t 7))]) (
.cond (.t 8) (
.skip) (
.exit 0))) (
.seq (
.block 1 (
.seq (
.region [Q 11 (.faddr 2 (.t 1)),
Q 12 (.load false 1 (.t 11)),
V 13 3,
Q 14 (.iaddr 8 none (.t 12) (.t 13)),
Q 15 (.load true 8 (.t 14)),
E 16 (.callf 241 [(.t 15)]),
Q 17 (.un .not (.t 16))]) (
.cond (.t 17) (
.seq (
.region [Q 2 (.mov (cb false))]) (
.ret)) (
.skip)))) (
.region [V 9 3,
Q 10 (.bin .add .scalar (.t 9) (ci 1)),
V 3 10])))))) (
.seq (
.region [Q 18 (.faddr 0 (.t 1)),
Q 19 (.load false 1 (.t 18)),
Q 20 (.bin .geq .scalar (.t 19) (ci 1)),
V 21 20,
G 22 (.faddr 0 (.t 1)) 21 true,
G 23 (.load false 1 (.t 22)) 21 true,
G 24 (.bin .leq .scalar (.t 23) (ci 1099511627776)) 21 true,
Q 25 (.pick (.t 21) (.t 24) (cb false)),
V 26 25,
G 27 (.faddr 1 (.t 1)) 26 true,
G 28 (.load false 1 (.t 27)) 26 true,
G 29 (.bin .geq .scalar (.t 28) (ci 0)) 26 true,
Q 30 (.pick (.t 26) (.t 29) (cb false)),
V 31 30,
G 32 (.faddr 1 (.t 1)) 31 true,
G 33 (.load false 1 (.t 32)) 31 true,
G 34 (.bin .lss .scalar (.t 33) (ci 1099511627776)) 31 true,
Q 35 (.pick (.t 31) (.t 34) (cb false)),
V 36 35,
G 37 (.faddr 2 (.t 1)) 36 true,
G 38 (.load false 1 (.t 37)) 36 true,
G 39 (.len .sl (.t 38)) 36 true,
G 40 (.bin .leq .scalar (.t 39) (ci 100)) 36 true,
Q 41 (.pick (.t 36) (.t 40) (cb false)),
V 2 41]) (
.ret)))
def a172 : AFunc := ⟨c172, [.tmp 2], true⟩
def c173 : ACode :=
.seq (
.region [Q 2 (.mov (cs []))]) (
.seq (
.seq (
.region [V 3 0,
Q 4 (.bin .lss .scalar (.t 3) (.c (.one (dc (.int .u64 128)))))]) (
.cond (.t 4) (
.seq (
.region [V 5 0,
Q 6 (.conv (.int .u8) (.t 5)),
M 7 (.bslice 5 1 1 [dc (.int .u8 0)] [(0, 1, (.t 6))]),
Q 8 (.conv .b2s (.t 7)),
V 2 8]) (
.ret)) (
.skip))) (
.seq (
.draw [W 0 9 0 0,
D 1 10 (.bin .rem .scalar (.t 9) (.c (.one (dc (.int .u64 128))))) 1,
D 2 11 (.bin .add .scalar (.c (.one (dc (.int .u64 128)))) (.t 10)) 3,
D 3 12 (.conv (.int .u8) (.t 11)) 7,
⟨4, ⟨some 13, .m (.bslice 5 1 1 [dc (.int .u8 0)] [(0, 1, (.t 12))]), none, 15⟩⟩,
D 5 14 (.conv .b2s (.t 13)) 31,
W 6 15 0 0,
D 7 16 (.bin .quo .scalar (.t 15) (.c (.one (dc (.int .u64 128))))) 64,
⟨8, ⟨some 17, .e (.callf 173 [(.t 16)]), none, 192⟩⟩,
D 9 18 (.bin .add .scalar (.t 14) (.t 17)) 511,
W 10 2 18 1023]) (
.ret)))
def a173 : AFunc := ⟨c173, [.tmp 2], true⟩
def c174 : ACode :=
.seq (
.region [Q 2 (.mov (cs []))]) (
.seq (
.region [V 3 0,
Q 4 (.len .str (.t 3)),
Q 5 (.conv (.int .u64) (.t 4)),
E 6 (.callf 173 [(.t 5)]),
V 7 0,
Q 8 (.bin .add .scalar (.t 6) (.t 7)),
V 2 8]) (
.ret))
def a174 : AFunc := ⟨c174, [.tmp 2], true⟩
def c175 : ACode :=
.seq (
.region [M 1 (.box 36 3 (.t 0)),
Q 2 (.mov (cs []))]) (
.seq (
.seq (
.region [Q 7 (.load true 3 (.t 1)),
E 8 (.callf 242 [(.t 7)]),
Q 9 (.un .not (.t 8))]) (
.cond (.t 9) (
.seq (
.region [Q 2 (.mov (cs []))]) (
.ret)) (
.skip))) (
.seq (
.draw [D 0 10 (.faddr 0 (.t 1)) 0,
D 1 11 (.load false 1 (.t 10)) 1,
D 3 13 (.faddr 2 (.t 1)) 0,
D 4 14 (.load false 1 (.t 13)) 8,
D 5 15 (.conv (.int .u64) (.t 14)) 24,
D 8 18 (.faddr 1 (.t 1)) 0,
D 9 19 (.load false 1 (.t 18)) 256,
D 10 20 (.len .sl (.t 19)) 768,
D 11 21 (.conv (.int .u64) (.t 20)) 1792,
⟨2, ⟨some 12, .e (.callf 174 [(.t 11)]), none, 3⟩⟩,
⟨6, ⟨some 16, .e (.callf 173 [(.t 15)]), none, 63⟩⟩,
D 7 17 (.bin .add .scalar (.t 12) (.t 16)) 127,
⟨12, ⟨some 22, .e (.callf 173 [(.t 21)]), none, 3967⟩⟩,
D 13 23 (.bin .add .scalar (.t 17) (.t 22)) 8191,
W 14 3 23 16383]) (
.seq (
.seq (
.region [Q 4 (.mov (ci 0))]) (
.block 0 (
.loop (
.seq (
.seq (
.region [V 24 4,
Q 25 (.faddr 1 (.t 1)),
Q 26 (.load false 1 (.t 25)),
Q 27 (.len .sl (.t 26)),
Q 28 (.bin .lss .scalar (.t 24) (.t 27))]) (
.cond (.t 28) (
.skip) (
.exit 0))) (
.seq (
.block 1 (
.seq (
.region [Q 31 (.faddr 1 (.t 1)),
Q 32 (.load false 1 (.t 31)),
V 33 4,
Q 34 (.iaddr 3 none (.t 32) (.t 33)),
Q 35 (.load true 3 (.t 34)),
M 5 (.alloc 185 3 zl26),
S 3 5 35]) (
.seq (
.region [Q 6 (.mov (.c (.one (dc (.int .u64 0)))))]) (
.seq (
.seq (
.region [Q 36 (.faddr 2 (.t 5)),
Q 37 (.load false 1 (.t 36))]) (
.cond (.t 37) (
.region [Q 6 (.mov (.c (.one (dc (.int .u64 1)))))]) (
.skip))) (
.draw [W 0 38 3 0,
D 1 39 (.faddr 0 (.t 5)) 0,
D 2 40 (.load false 1 (.t 39)) 2,
D 5 43 (.faddr 1 (.t 5)) 0,
D 6 44 (.load false 1 (.t 43)) 32,
D 7 45 (.conv (.int .u64) (.t 44)) 96,
W 10 48 6 0,
⟨3, ⟨some 41, .e (.callf 174 [(.t 40)]), none, 6⟩⟩,
D 4 42 (.bin .add .scalar (.t 38) (.t 41)) 15,
⟨8, ⟨some 46, .e (.callf 173 [(.t 45)]), none, 238⟩⟩,
D 9 47 (.bin .add .scalar (.t 42) (.t 46)) 511,
⟨11, ⟨some 49, .e (.callf 173 [(.t 48)]), none, 1518⟩⟩,
D 12 50 (.bin .add .scalar (.t 47) (.t 49)) 4095,
W 13 3 50 8191]))))) (
.region [V 29 4,
Q 30 (.bin .add .scalar (.t 29) (ci 1)),
V 4 30])))))) (
.seq (
.region [V 51 3,
V 2 51]) (
.ret)))))
def a175 : AFunc := ⟨c175, [.tmp 2], true⟩
def c176 : ACode :=
.seq (
.region [Q 2 (.mov (cs []))]) (
.seq (
.region [V 6 0,
Q 7 (.len .sl (.t 6)),
Q 8 (.conv (.int .u64) (.t 7)),
E 9 (.callf 173 [(.t 8)]),
V 3 9]) (
.seq (
.seq (
.region [Q 4 (.mov (ci 0))]) (
.block 0 (
.loop (
.seq (
.seq (
.region [V 10 4,
V 11 0,
Q 12 (.len .sl (.t 11)),
Q 13 (.bin .lss .scalar (.t 10) (.t 12))]) (
.cond (.t 13) (
.skip) (
.exit 0))) (
.seq (
.block 1 (
.seq (
.region [V 16 0,
V 17 4,
Q 18 (.iaddr 4 none (.t 16) (.t 17)),
Q 19 (.load true 4 (.t 18)),
E 20 (.callf 243 [(.t 19)]),
V 5 20]) (
.seq (
.seq (
.region [V 21 5,
Q 22 (.bin .eql .scalar (.t 21) (cs []))]) (
.cond (.t 22) (
.seq (
.region [Q 2 (.mov (cs []))]) (
.ret)) (
.skip))) (
.region [V 23 3,
V 24 5,
Q 25 (.bin .add .scalar (.t 23) (.t 24)),
V 3 25])))) (
.region [V 14 4,
Q 15 (.bin .add .scalar (.t 14) (ci 1)),
V 4 15])))))) (
.seq (
.region [V 26 3,
V 2 26]) (
.ret))))
def a176 : AFunc := ⟨c176, [.tmp 2], true⟩
def c177 : ACode :=
.seq (
.region [Q 2 (.mov (cs []))]) (
.seq (
.region [Q 3 (.mov (cs []))]) (
.seq (
.seq (
.region [Q 4 (.mov (ci 0))]) (
.block 0 (
.loop (
.seq (
.seq (
.region [V 5 4,
Q 6 (.bin .lss .scalar (.t 5) (ci 8))]) (
.cond (.t 6) (
.skip) (
.exit 0))) (
.seq (
.block 1 (
.seq (
.region [V 9 0,
Q 10 (.bin .rem .scalar (.t 9) (.c (.one (dc (.int .u64 256))))),
Q 11 (.conv (.int .u8) (.t 10)),
M 12 (.bslice 5 1 1 [dc (.int .u8 0)] [(0, 1, (.t 11))]),
Q 13 (.conv .b2s (.t 12)),
V 14 3,
Q 15 (.bin .add .scalar (.t 13) (.t 14)),
V 3 15]) (
.region [V 16 0,
Q 17 (.bin .quo .scalar (.t 16) (.c (.one (dc (.int .u64 256))))),
V 0 17]))) (
.region [V 7 4,
Q 8 (.bin .add .scalar (.t 7) (ci 1)),
V 4 8])))))) (
.seq (
.region [V 18 3,
V 2 18]) (
.ret))))
def a177 : AFunc := ⟨c177, [.tmp 2], true⟩
def c178 : ACode :=
.seq (
.region [Q 2 (.mov (.c (.one (dc (.int .u32 0)))))]) (
.seq (
.region [V 3 0,
E 4 (.callf 244 [(.c (.one (dc (.int .u32 0)))), (.t 3)]),
V 2 4]) (
.ret))
def a178 : AFunc := ⟨c178, [.tmp 2], true⟩
def c179 : ACode :=
.seq (
.region [M 2 (.box 74 11 (.t 0)),
M 3 (.box 36 3 (.t 1)),
Q 4 (.mov (cb false))]) (
.seq (
.draw [D 0 8 (.faddr 3 (.t 2)) 0,
D 1 9 (.load false 1 (.t 8)) 1,
D 2 10 (.bin .eql .scalar (.t 9) (ci 0)) 3,
D 3 11 (.faddr 4 (.t 2)) 0,
D 4 12 (.load false 1 (.t 11)) 8,
D 5 13 (.bin .eql .scalar (.t 12) (ci 0)) 24,
D 6 14 (.faddr 5 (.t 2)) 0,
D 7 15 (.load true 2 (.t 14)) 64,
D 8 16 (.build zl7 []) 0,
D 9 17 (.bin .eql (.agg [.int, .int]) (.t 15) (.t 16)) 448,
W 10 5 10 7,
W 11 6 13 1087,
W 12 7 17 4095]) (
.seq (
.seq (
.region [Q 18 (.faddr 0 (.t 2)),
Q 19 (.load false 1 (.t 18))]) (
.block 0 (
.seq (
.block 4 (
.seq (
.block 3 (
.seq (
.block 2 (
.seq (
.block 1 (
.seq (
.seq (
.seq (
.region [Q 21 (.bin .eql .scalar (.t 19) (ci 2)),
V 20 21]) (
.cond (.t 20) (
.exit 1) (
.skip))) (
.seq (
.seq (
.region [Q 23 (.bin .eql .scalar (.t 19) (ci 1)),
V 22 23]) (
.cond (.t 22) (
.exit 2) (
.skip))) (
.seq (
.seq (
.region [Q 25 (.bin .eql .scalar (.t 19) (ci 3)),
V 24 25]) (
.cond (.t 24) (
.exit 3) (
.skip))) (
.seq (
.region [Q 27 (.bin .eql .scalar (.t 19) (ci 4)),
V 26 27]) (
.cond (.t 26) (
.exit 4) (
.skip)))))) (
.exit 0))) (
.region [Q 28 (.faddr 4 (.t 2)),
Q 29 (.load false 1 (.t 28)),
Q 30 (.bin .geq .scalar (.t 29) (ci 0)),
V 31 30,
G 32 (.faddr 4 (.t 2)) 31 true,
G 33 (.load false 1 (.t 32)) 31 true,
G 34 (.bin .lss .scalar (.t 33) (ci 1099511627776)) 31 true,
Q 35 (.pick (.t 31) (.t 34) (cb false)),
V 6 35]))) (
.seq (
.seq (
.region [V 36 6,
V 37 36,
G 38 (.mov (.t 7)) 37 true,
Q 39 (.pick (.t 37) (.t 38) (cb false)),
V 40 39,
G 41 (.faddr 2 (.t 2)) 40 true,
G 42 (.load false 1 (.t 41)) 40 true,
G 43 (.len .sl (.t 42)) 40 true,
G 44 (.bin .eql .scalar (.t 43) (ci 0)) 40 true,
Q 45 (.pick (.t 40) (.t 44) (cb false)),
V 4 45]) (
.ret)) (
.exit 0)))) (
.region [Q 46 (.faddr 5 (.t 2)),
Q 47 (.load true 2 (.t 46)),
E 48 (.callf 45 [(.t 47)]),
V 7 48]))) (
.seq (
.seq (
.region [V 49 5,
V 50 49,
G 51 (.mov (.t 6)) 50 true,
Q 52 (.pick (.t 50) (.t 51) (cb false)),
V 53 52,
G 54 (.mov (.t 7)) 53 true,
Q 55 (.pick (.t 53) (.t 54) (cb false)),
V 56 55,
G 57 (.load true 3 (.t 3)) 56 true,
G 58 (.faddr 2 (.t 2)) 56 true,
G 59 (.load false 1 (.t 58)) 56 true,
⟨some 60, .e (.callf 245 [(.t 57), (.t 59)]), some (56, true), 0⟩,
Q 61 (.pick (.t 56) (.t 60) (cb false)),
V 4 61]) (
.ret)) (
.exit 0))))) (
.seq (
.region [Q 4 (.mov (cb false))]) (
.ret))))
def a179 : AFunc := ⟨c179, [.tmp 4], true⟩
def c180 : ACode :=
.seq (
.region [M 3 (.box 36 3 (.t 1)),
Q 4 (.mov (cb false))]) (
.seq (
.seq (
.region [V 8 0,
E 9 (.callf 246 [(.t 8)]),
Q 10 (.un .not (.t 9))]) (
.cond (.t 10) (
.seq (
.region [Q 4 (.mov (cb false))]) (
.ret)) (
.skip))) (
.seq (
.seq (
.region [V 11 0,
Q 12 (.len .sl (.t 11)),
Q 13 (.mov (ci 0))]) (
.block 0 (
.loop (
.seq (
.region [Q 14 (.bin .lss .scalar (.t 13) (.t 12))]) (
.seq (
.cond (.t 14) (
.skip) (
.exit 0)) (
.seq (
.block 1 (
.seq (
.region [Q 15 (.iaddr 6 none (.t 11) (.t 13)),
Q 16 (.load true 6 (.t 15)),
M 6 (.alloc 294 6 zl1),
S 6 6 16]) (
.seq (
.region [Q 17 (.faddr 0 (.t 6)),
Q 18 (.load false 1 (.t 17)),
Q 19 (.build zl1 [(0, 1, (.t 18))]),
M 7 (.alloc 294 6 zl1),
S 6 7 19]) (
.seq (
.seq (
.region [Q 20 (.faddr 0 (.t 6)),
Q 21 (.load false 1 (.t 20)),
Q 22 (.bin .leq .scalar (.t 21) (ci 8))]) (
.cond (.t 22) (
.seq (
.seq (
.region [Q 23 (.faddr 1 (.t 6)),
Q 24 (.load false 1 (.t 23)),
Q 25 (.bin .lss .scalar (.t 24) (ci 0)),
V 26 25,
G 27 (.faddr 1 (.t 6)) 26 false,
G 28 (.load false 1 (.t 27)) 26 false,
G 29 (.faddr 1 (.t 3)) 26 false,
G 30 (.load false 1 (.t 29)) 26 false,
G 31 (.len .sl (.t 30)) 26 false,
G 32 (.bin .geq .scalar (.t 28) (.t 31)) 26 false,
Q 33 (.pick (.t 26) (cb true) (.t 32))]) (
.cond (.t 33) (
.seq (
.region [Q 4 (.mov (cb false))]) (
.ret)) (
.skip))) (
.region [Q 34 (.faddr 1 (.t 6)),
Q 35 (.load false 1 (.t 34)),
Q 36 (.faddr 1 (.t 7)),
S 1 36 35])) (
.skip))) (
.seq (
.seq (
.region [Q 37 (.faddr 0 (.t 6)),
Q 38 (.load false 1 (.t 37)),
Q 39 (.bin .leq .scalar (.t 38) (ci 6))]) (
.cond (.t 39) (
.seq (
.seq (
.draw [D 0 40 (.faddr 2 (.t 6)) 0,
D 1 41 (.load true 4 (.t 40)) 1,
⟨2, ⟨some 42, .e (.callf 158 [(.t 41)]), none, 3⟩⟩,
D 3 43 (.un .not (.t 42)) 7,
W 4 44 43 15,
⟨5, ⟨some 45, .q (.faddr 2 (.t 6)), some (44, false), 31⟩⟩,
⟨6, ⟨some 46, .q (.faddr 0 (.t 45)), some (44, false), 63⟩⟩,
⟨7, ⟨some 47, .q (.load false 1 (.t 46)), some (44, false), 127⟩⟩,
⟨8, ⟨some 48, .q (.faddr 1 (.t 3)), some (44, false), 31⟩⟩,
⟨9, ⟨some 49, .q (.load false 1 (.t 48)), some (44, false), 287⟩⟩,
⟨10, ⟨some 50, .q (.faddr 1 (.t 6)), some (44, false), 31⟩⟩,
⟨11, ⟨some 51, .q (.load false 1 (.t 50)), some (44, false), 1055⟩⟩,
⟨12, ⟨some 52, .q (.iaddr 3 none (.t 49) (.t 51)), some (44, false), 3871⟩⟩,
⟨13, ⟨some 53, .q (.faddr 1 (.t 52)), some (44, false), 7967⟩⟩,
⟨14, ⟨some 54, .q (.load false 1 (.t 53)), some (44, false), 16159⟩⟩,
⟨15, ⟨some 55, .q (.bin .neq .scalar (.t 47) (.t 54)), some (44, false), 32767⟩⟩,
D 16 56 (.pick (.t 44) (cb true) (.t 55)) 65535]) (
.cond (.t 56) (
.seq (
.region [Q 4 (.mov (cb false))]) (
.ret)) (
.skip))) (
.region [Q 57 (.faddr 2 (.t 6)),
Q 58 (.load true 4 (.t 57)),
Q 59 (.faddr 2 (.t 7)),
S 4 59 58])) (
.skip))) (
.seq (
.region [Q 60 (.load true 6 (.t 6)),
Q 61 (.load true 6 (.t 7)),
Q 62 (.bin .neq (.agg [.int, .int, .int, .int, .int, .str]) (.t 60) (.t 61))]) (
.cond (.t 62) (
.seq (
.region [Q 4 (.mov (cb false))]) (
.ret)) (
.skip)))))))) (
.region [Q 63 (.bin .add .scalar (.t 13) (ci 1)),
V 13 63]))))))) (
.seq (
.region [Q 4 (.mov (cb true))]) (
.ret))))
def a180 : AFunc := ⟨c180, [.tmp 4], true⟩
def c181 : ACode :=
.seq (
.region [M 3 (.box 74 11 (.t 1)),
Q 4 (.mov (ci 0))]) (
.seq (
.region [Q 5 (.faddr 3 (.t 3)),
Q 6 (.load false 1 (.t 5)),
V 4 6]) (
.ret))
def a181 : AFunc := ⟨c181, [.tmp 4], true⟩
def c182 : ACode :=
.seq (
.region [M 3 (.box 74 11 (.t 1)),
Q 4 (.mov (.c (.one (dc (.sl [] true))))),
Q 5 (.mov (ci 0))]) (
.seq (
.region [Q 6 (.mov (.c (.one (dc (.sl [] true)))))]) (
.seq (
.seq (
.region [V 13 0,
Q 14 (.faddr 1 (.t 3)),
Q 15 (.load false 1 (.t 14)),
E 16 (.callf 15 [(.t 13), (.t 15)]),
Q 17 (.len .sl (.t 16)),
Q 18 (.mov (ci 0))]) (
.block 0 (
.loop (
.seq (
.region [Q 19 (.bin .lss .scalar (.t 18) (.t 17))]) (
.seq (
.cond (.t 19) (
.skip) (
.exit 0)) (
.seq (
.block 1 (
.seq (
.region [Q 20 (.iaddr 1 none (.t 16) (.t 18)),
Q 21 (.load false 1 (.t 20)),
V 8 21]) (
.seq (
.region [V 23 0,
Q 24 (.faddr 1 (.t 3)),
Q 25 (.load false 1 (.t 24)),
V 26 8,
Q 27 (.faddr 3 (.t 3)),
Q 28 (.load false 1 (.t 27)),
E 29 (.callf 6 [(.t 23), (.t 25), (.t 26), (.t 28)]),
V 22 29,
Q 30 (.extract 0 (.t 22)),
Q 31 (.extract 1 (.t 22)),
V 9 30,
V 10 31]) (
.seq (
.region [V 32 9,
Q 33 (.len .sl (.t 32)),
Q 34 (.mov (ci 0))]) (
.block 2 (
.loop (
.seq (
.region [Q 35 (.bin .lss .scalar (.t 34) (.t 33))]) (
.seq (
.cond (.t 35) (
.skip) (
.exit 2)) (
.seq (
.block 3 (
.seq (
.region [Q 36 (.iaddr 3 none (.t 32) (.t 34)),
Q 37 (.load true 3 (.t 36)),
M 12 (.alloc 98 3 zl6),
S 3 12 37]) (
.region [V 38 6,
V 39 8,
Q 40 (.faddr 0 (.t 12)),
Q 41 (.load true 2 (.t 40)),
Q 42 (.faddr 2 (.t 12)),
Q 43 (.load false 1 (.t 42)),
Q 44 (.build zl27 [(0, 1, (.t 39)), (3, 2, (.t 41)), (5, 1, (.t 43))]),
M 45 (.bslice 209 6 1 zl27 [(0, 6, (.t 44))]),
E 46 (.append 209 6 72 (.t 38) (.t 45)),
V 6 46]))) (
.region [Q 47 (.bin .add .scalar (.t 34) (ci 1)),
V 34 47])))))))))) (
.region [Q 48 (.bin .add .scalar (.t 18) (ci 1)),
V 18 48]))))))) (
.seq (
.region [V 49 6,
V 4 49,
Q 5 (.mov (ci 0))]) (
.ret))))
def a182 : AFunc := ⟨c182, [.tmp 4, .tmp 5], true⟩
def c183 : ACode :=
.seq (
.region [M 3 (.box 74 11 (.t 1)),
Q 4 (.mov (.c (.one (dc (.sl [] true))))),
Q 5 (.mov (ci 0))]) (
.seq (
.region [V 12 0,
Q 13 (.load true 11 (.t 3)),
E 14 (.callf 182 [(.t 12), (.t 13)]),
V 11 14,
Q 15 (.extract 0 (.t 11)),
Q 16 (.extract 1 (.t 11)),
V 6 15,
V 7 16]) (
.seq (
.region [Q 8 (.mov (.c (.one (dc (.sl [] true)))))]) (
.seq (
.seq (
.region [V 17 6,
Q 18 (.len .sl (.t 17)),
Q 19 (.mov (ci 0))]) (
.block 0 (
.loop (
.seq (
.region [Q 20 (.bin .lss .scalar (.t 19) (.t 18))]) (
.seq (
.cond (.t 20) (
.skip) (
.exit 0)) (
.seq (
.block 1 (
.seq (
.region [Q 21 (.iaddr 6 none (.t 17) (.t 19)),
Q 22 (.load true 6 (.t 21)),
M 10 (.alloc 209 6 zl27),
S 6 10 22]) (
.seq (
.region [Q 23 (.faddr 3 (.t 10)),
Q 24 (.load true 2 (.t 23)),
Q 25 (.faddr 4 (.t 3)),
Q 26 (.load false 1 (.t 25)),
E 27 (.callf 88 [(.t 24), (.t 26)])]) (
.cond (.t 27) (
.region [V 28 8,
Q 29 (.load true 6 (.t 10)),
M 30 (.bslice 209 6 1 zl27 [(0, 6, (.t 29))]),
E 31 (.append 209 6 72 (.t 28) (.t 30)),
V 8 31]) (
.skip))))) (
.region [Q 32 (.bin .add .scalar (.t 19) (ci 1)),
V 19 32]))))))) (
.seq (
.region [V 33 8,
V 34 7,
V 4 33,
V 5 34]) (
.ret)))))
def a183 : AFunc := ⟨c183, [.tmp 4, .tmp 5], true⟩
def c184 : ACode :=
.seq (
.region [M 3 (.box 74 11 (.t 1)),
Q 4 (.mov (ci 0))]) (
.seq (
.region [V 5 0,
E 6 (.callf 12 [(.t 5)]),
V 4 6]) (
.ret))
def a184 : AFunc := ⟨c184, [.tmp 4], true⟩
def c185 : ACode :=
.seq (
.region [M 3 (.box 74 11 (.t 1)),
Q 4 (.mov (.c (.one (dc (.sl [] true))))),
Q 5 (.mov (ci 0))]) (
.seq (
.region [Q 9 (.faddr 2 (.t 3)),
Q 10 (.load false 1 (.t 9)),
E 11 (.callf 152 [(.t 10)]),
V 6 11]) (
.seq (
.region [V 13 0,
Q 14 (.faddr 1 (.t 3)),
Q 15 (.load false 1 (.t 14)),
V 16 6,
Q 17 (.faddr 5 (.t 3)),
Q 18 (.load true 2 (.t 17)),
E 19 (.callf 8 [(.t 13), (.t 15), (.t 16), (.t 18)]),
V 12 19,
Q 20 (.extract 0 (.t 12)),
Q 21 (.extract 1 (.t 12)),
V 7 20,
V 8 21]) (
.seq (
.region [V 22 6,
V 23 7,
E 24 (.callf 247 [(.t 22), (.t 23)]),
V 25 8,
V 4 24,
V 5 25]) (
.ret))))
def a185 : AFunc := ⟨c185, [.tmp 4, .tmp 5], true⟩
def c186 : ACode :=
.seq (
.region [M 3 (.box 74 11 (.t 1)),
Q 4 (.mov (.c (.one (dc (.sl [] true))))),
Q 5 (.mov (ci 0))]) (
.seq (
.region [V 8 0,
E 9 (.callf 13 [(.t 8)]),
V 10 0,
E 11 (.callf 12 [(.t 10)]),
Q 12 (.bin .add .scalar (.t 11) (ci 1)),
Q 13 (.build zl7 [(0, 1, (.t 9)), (1, 1, (.t 12))]),
Q 14 (.faddr 5 (.t 3)),
S 2 14 13]) (
.seq (
.region [V 16 0,
Q 17 (.load true 11 (.t 3)),
E 18 (.callf 185 [(.t 16), (.t 17)]),
V 15 18,
Q 19 (.extract 0 (.t 15)),
Q 20 (.extract 1 (.t 15)),
V 6 19,
V 7 20]) (
.seq (
.region [V 21 6,
V 4 21,
Q 5 (.mov (ci 0))]) (
.ret))))
def a186 : AFunc := ⟨c186, [.tmp 4, .tmp 5], true⟩
def c187 : ACode :=
.seq (
.region [Q 4 (.mov (ci 0))]) (
.seq (
.seq (
.region [V 11 0,
E 12 (.callf 246 [(.t 11)]),
Q 13 (.un .not (.t 12))]) (
.cond (.t 13) (
.seq (
.region [Q 4 (.mov (ci (-1)))]) (
.ret)) (
.skip))) (
.seq (
.seq (
.region [V 14 0,
Q 15 (.len .sl (.t 14)),
Q 16 (.mov (ci 0))]) (
.block 0 (
.loop (
.seq (
.region [Q 17 (.bin .lss .scalar (.t 16) (.t 15))]) (
.seq (
.cond (.t 17) (
.skip) (
.exit 0)) (
.seq (
.block 1 (
.seq (
.region [Q 18 (.iaddr 6 none (.t 14) (.t 16)),
Q 19 (.load true 6 (.t 18)),
M 6 (.alloc 294 6 zl1),
S 6 6 19]) (
.seq (
.region [Q 20 (.faddr 1 (.t 6)),
Q 21 (.load false 1 (.t 20)),
Q 22 (.bin .lss .scalar (.t 21) (ci 0)),
V 23 22,
G 24 (.faddr 1 (.t 6)) 23 false,
G 25 (.load false 1 (.t 24)) 23 false,
G 26 (.mov (.t 1)) 23 false,
G 27 (.len .sl (.t 26)) 23 false,
G 28 (.bin .geq .scalar (.t 25) (.t 27)) 23 false,
Q 29 (.pick (.t 23) (cb true) (.t 28))]) (
.cond (.t 29) (
.seq (
.region [Q 4 (.mov (ci (-1)))]) (
.ret)) (
.skip))))) (
.region [Q 30 (.bin .add .scalar (.t 16) (ci 1)),
V 16 30]))))))) (
.seq (
.region [Q 7 (.mov (.c (.one (dc (.sl [] true)))))]) (
.seq (
.seq (
.region [V 31 0,
Q 32 (.len .sl (.t 31)),
Q 33 (.bin .sub .scalar (.t 32) (ci 1)),
V 8 33]) (
.block 2 (
.loop (
.seq (
.seq (
.region [V 34 8,
Q 35 (.bin .geq .scalar (.t 34) (ci 0))]) (
.cond (.t 35) (
.skip) (
.exit 2))) (
.seq (
.block 3 (
.seq (
.region [V 38 0,
V 39 8,
Q 40 (.iaddr 6 none (.t 38) (.t 39)),
Q 41 (.load true 6 (.t 40)),
V 42 7,
Q 43 (.len .sl (.t 42)),
Q 44 (.bin .sub .scalar (.t 43) (ci 1)),
M 9 (.alloc 294 6 zl1),
S 6 9 41,
V 10 44]) (
.seq (
.region [Q 45 (.faddr 0 (.t 9)),
Q 46 (.load false 1 (.t 45))]) (
.block 4 (
.seq (
.region [Q 58 (.bin .eql .scalar (.t 46) (ci 11)),
V 57 58]) (
.cond (.t 57) (
.region [V 59 7,
V 60 10,
V 61 7,
V 62 10,
Q 63 (.iaddr 1 none (.t 61) (.t 62)),
Q 64 (.load false 1 (.t 63)),
E 65 (.callf 248 [(.t 64)]),
Q 66 (.iaddr 1 none (.t 59) (.t 60)),
S 1 66 65]) (
.seq (
.region [Q 68 (.bin .eql .scalar (.t 46) (ci 9)),
V 67 68]) (
.cond (.t 67) (
.draw [W 0 69 7 0,
W 1 70 10 0,
D 2 71 (.bin .sub .scalar (.t 70) (ci 1)) 2,
D 3 72 (.slice 1 (.t 69) none (some (.t 71)) none) 7,
W 4 73 7 0,
W 5 74 10 0,
D 6 75 (.iaddr 1 none (.t 73) (.t 74)) 48,
D 7 76 (.load false 1 (.t 75)) 112,
W 8 77 7 0,
W 9 78 10 0,
D 10 79 (.bin .sub .scalar (.t 78) (ci 1)) 512,
D 11 80 (.iaddr 1 none (.t 77) (.t 79)) 1792,
D 12 81 (.load false 1 (.t 80)) 3840,
⟨13, ⟨some 82, .e (.callf 249 [(.t 76), (.t 81)]), none, 8176⟩⟩,
⟨14, ⟨some 83, .m (.bslice 3 1 1 [dc (.int .i64 0)] [(0, 1, (.t 82))]), none, 16368⟩⟩,
⟨15, ⟨some 84, .e (.append 3 1 8 (.t 72) (.t 83)), none, 32767⟩⟩,
W 16 7 84 65535]) (
.seq (
.region [Q 86 (.bin .eql .scalar (.t 46) (ci 10)),
V 85 86]) (
.cond (.t 85) (
.draw [W 0 87 7 0,
W 1 88 10 0,
D 2 89 (.bin .sub .scalar (.t 88) (ci 1)) 2,
D 3 90 (.slice 1 (.t 87) none (some (.t 89)) none) 7,
W 4 91 7 0,
W 5 92 10 0,
D 6 93 (.iaddr 1 none (.t 91) (.t 92)) 48,
D 7 94 (.load false 1 (.t 93)) 112,
W 9 96 7 0,
W 10 97 10 0,
D 11 98 (.bin .sub .scalar (.t 97) (ci 1)) 1024,
D 12 99 (.iaddr 1 none (.t 96) (.t 98)) 3584,
D 13 100 (.load false 1 (.t 99)) 7680,
⟨8, ⟨some 95, .e (.callf 248 [(.t 94)]), none, 240⟩⟩,
⟨14, ⟨some 101, .e (.callf 248 [(.t 100)]), none, 16368⟩⟩,
⟨15, ⟨some 102, .e (.callf 249 [(.t 95), (.t 101)]), none, 32752⟩⟩,
⟨16, ⟨some 103, .e (.callf 248 [(.t 102)]), none, 65520⟩⟩,
⟨17, ⟨some 104, .m (.bslice 3 1 1 [dc (.int .i64 0)] [(0, 1, (.t 103))]), none, 131056⟩⟩,
⟨18, ⟨some 105, .e (.append 3 1 8 (.t 90) (.t 104)), none, 262143⟩⟩,
W 19 7 105 524287]) (
.draw [W 0 47 7 0,
D 1 48 (.load true 6 (.t 9)) 0,
W 2 49 1 0,
D 3 50 (.faddr 1 (.t 9)) 0,
D 4 51 (.load false 1 (.t 50)) 8,
D 5 52 (.iaddr 4 none (.t 49) (.t 51)) 28,
D 6 53 (.load true 4 (.t 52)) 60,
⟨7, ⟨some 54, .e (.callf 250 [(.t 48), (.t 53)]), none, 126⟩⟩,
⟨8, ⟨some 55, .m (.bslice 3 1 1 [dc (.int .i64 0)] [(0, 1, (.t 54))]), none, 254⟩⟩,
⟨9, ⟨some 56, .e (.append 3 1 8 (.t 47) (.t 55)), none, 511⟩⟩,
W 10 7 56 1023]))))))))))) (
.region [V 36 8,
Q 37 (.bin .sub .scalar (.t 36) (ci 1)),
V 8 37])))))) (
.seq (
.region [V 106 7,
Q 107 (.iaddr 1 none (.t 106) (ci 0)),
Q 108 (.load false 1 (.t 107)),
V 4 108]) (
.ret))))))
def a187 : AFunc := ⟨c187, [.tmp 4], true⟩
def c188 : ACode :=
.seq (
.region [Q 6 (.mov (ci 0))]) (
.seq (
.region [V 11 2,
E 12 (.callv (.t 11) []),
V 10 12,
Q 13 (.extract 0 (.t 10)),
Q 14 (.extract 1 (.t 10)),
M 7 (.alloc 63 2 zl9),
S 2 7 13,
V 8 14]) (
.seq (
.seq (
.region [V 15 8,
Q 16 (.bin .eql .scalar (.t 15) (ci 0))]) (
.cond (.t 16) (
.draw [W 0 17 0 0,
D 1 18 (.nilck (.t 17)) 1,
D 2 19 (.faddr 1 (.t 18)) 3,
D 3 20 (.load false 1 (.t 19)) 7,
D 4 21 (.load true 2 (.t 7)) 0,
⟨5, ⟨some 22, .e (.callf 214 [(.t 21)]), none, 16⟩⟩,
⟨6, ⟨some 23, .e (.callf 251 [(.t 20), (.t 22)]), none, 63⟩⟩,
W 7 8 23 127]) (
.skip))) (
.seq (
.seq (
.region [V 24 8,
Q 25 (.bin .neq .scalar (.t 24) (ci 0))]) (
.cond (.t 25) (
.seq (
.region [V 26 0,
Q 27 (.nilck (.t 26)),
Q 28 (.faddr 0 (.t 27)),
Q 29 (.load false 1 (.t 28)),
E 30 (.callf 209 [(.t 29)])]) (
.seq (
.region [Q 6 (.mov (ci 3))]) (
.ret))) (
.skip))) (
.seq (
.region [V 31 0,
Q 32 (.nilck (.t 31)),
Q 33 (.faddr 0 (.t 32)),
Q 34 (.load false 1 (.t 33)),
E 35 (.callf 138 [(.t 34)]),
V 9 35]) (
.seq (
.region [V 36 9]) (
.block 0 (
.seq (
.region [Q 42 (.bin .eql .scalar (.t 36) (ci 0)),
V 41 42]) (
.cond (.t 41) (
.seq (
.region [V 43 0,
V 44 0,
Q 45 (.load true 2 (.t 7)),
V 46 1,
Q 47 (.nilck (.t 43)),
Q 48 (.faddr 3 (.t 47)),
S 2 48 45,
Q 49 (.nilck (.t 44)),
Q 50 (.faddr 2 (.t 49)),
S 1 50 46]) (
.seq (
.region [Q 6 (.mov (ci 0))]) (
.ret))) (
.seq (
.region [Q 52 (.bin .eql .scalar (.t 36) (ci 3)),
V 51 52]) (
.cond (.t 51) (
.seq (
.region [V 53 0,
Q 54 (.nilck (.t 53)),
Q 55 (.faddr 0 (.t 54)),
Q 56 (.load false 1 (.t 55)),
E 57 (.callf 209 [(.t 56)])]) (
.seq (
.region [V 58 9,
V 6 58]) (
.ret))) (
.seq (
.region [V 37 0,
Q 38 (.nilck (.t 37)),
Q 39 (.faddr 5 (.t 38)),
⟨none, .e (.store 1 (.t 39) (cb true)), none, 0⟩]) (
.seq (
.region [V 40 9,
V 6 40]) (
.ret)))))))))))))
def a188 : AFunc := ⟨c188, [.tmp 6], false⟩
def c189 : ACode :=
.seq (
.region [M 2 (.alloc 63 2 zl9),
Q 3 (.mov (ci 0))]) (
.seq (
.draw [D 0 8 (.load false 1 (.t 0)) 0,
D 1 9 (.nilck (.t 8)) 1,
D 2 10 (.faddr 1 (.t 9)) 3,
D 3 11 (.load false 1 (.t 10)) 7,
D 4 12 (.load false 1 (.t 0)) 0,
D 5 13 (.nilck (.t 12)) 16,
D 6 14 (.faddr 3 (.t 13)) 48,
D 7 15 (.faddr 0 (.t 14)) 112,
D 8 16 (.load false 1 (.t 15)) 240,
⟨9, ⟨some 17, .e (.callf 190 [(.t 11), (.t 16)]), none, 511⟩⟩]) (
.seq (
.seq (
.region [Q 18 (.load false 1 (.t 0)),
Q 19 (.nilck (.t 18)),
Q 20 (.faddr 3 (.t 19)),
Q 21 (.faddr 1 (.t 20)),
Q 22 (.load false 1 (.t 21)),
Q 23 (.len .sl (.t 22)),
Q 24 (.mov (ci 0))]) (
.block 0 (
.loop (
.seq (
.region [Q 25 (.bin .lss .scalar (.t 24) (.t 23))]) (
.seq (
.cond (.t 25) (
.skip) (
.exit 0)) (
.seq (
.block 1 (
.seq (
.region [Q 26 (.iaddr 1 none (.t 22) (.t 24)),
Q 27 (.load false 1 (.t 26)),
V 5 27]) (
.region [Q 28 (.load false 1 (.t 0)),
Q 29 (.nilck (.t 28)),
Q 30 (.faddr 1 (.t 29)),
Q 31 (.load false 1 (.t 30)),
V 32 5,
E 33 (.callf 190 [(.t 31), (.t 32)])]))) (
.region [Q 34 (.bin .add .scalar (.t 24) (ci 1)),
V 24 34]))))))) (
.seq (
.draw [D 0 36 (.load false 1 (.t 0)) 0,
D 1 37 (.nilck (.t 36)) 1,
D 2 38 (.faddr 1 (.t 37)) 3,
D 3 39 (.load false 1 (.t 38)) 7,
D 4 40 (.load false 1 (.t 1)) 0,
⟨5, ⟨some 41, .e (.callf 18 [(.t 40)]), none, 16⟩⟩,
⟨6, ⟨some 42, .e (.callf 191 [(.t 39), (.t 41)]), none, 63⟩⟩,
W 7 35 42 127,
D 8 43 (.extract 0 (.t 35)) 255,
D 9 44 (.extract 1 (.t 35)) 255,
W 10 6 43 511,
W 11 7 44 2047]) (
.seq (
.region [V 45 6,
Q 46 (.build zl9 [(0, 1, (.t 45))]),
V 47 7,
S 2 2 46,
V 3 47]) (
.ret)))))
def a189 : AFunc := ⟨c189, [.cell 2 true 2, .tmp 3], false⟩
def c190 : ACode :=
.seq (
.region [Q 4 (.mov (ci 0))]) (
.seq (
.region [V 11 0,
V 12 1,
E 13 (.callf 252 [(.t 11), (.t 12)]),
V 10 13,
Q 14 (.extract 0 (.t 10)),
Q 15 (.extract 1 (.t 10)),
Q 16 (.extract 2 (.t 10)),
V 5 14,
V 6 15,
V 7 16]) (
.seq (
.seq (
.region [V 17 5,
Q 18 (.len .sl (.t 17)),
Q 19 (.mov (ci 0))]) (
.block 0 (
.loop (
.seq (
.region [Q 20 (.bin .lss .scalar (.t 19) (.t 18))]) (
.seq (
.cond (.t 20) (
.skip) (
.exit 0)) (
.seq (
.block 1 (
.seq (
.region [Q 21 (.iaddr 1 none (.t 17) (.t 19)),
Q 22 (.load false 1 (.t 21)),
V 9 22]) (
.region [V 23 0,
Q 24 (.nilck (.t 23)),
Q 25 (.faddr 0 (.t 24)),
Q 26 (.load false 1 (.t 25)),
V 27 9,
E 28 (.callf 253 [(.t 26), (.t 27)])]))) (
.region [Q 29 (.bin .add .scalar (.t 19) (ci 1)),
V 19 29]))))))) (
.seq (
.region [V 30 7,
V 4 30]) (
.ret))))
def a190 : AFunc := ⟨c190, [.tmp 4], false⟩
def c191 : ACode :=
.seq (
.region [Q 4 (.mov (ci 0)),
Q 5 (.mov (ci 0))]) (
.seq (
.block 0 (
.seq (
.region [V 13 0,
E 14 (.callf 210 [(.t 13)]),
Q 15 (.un .not (.t 14)),
V 12 15]) (
.cond (.t 12) (
.seq (
.region [Q 4 (.mov (ci 0)),
Q 5 (.mov (ci 13))]) (
.ret)) (
.seq (
.region [V 17 1,
Q 18 (.len .str (.t 17)),
Q 19 (.bin .gtr .scalar (.t 18) (ci 100000)),
V 16 19]) (
.cond (.t 16) (
.seq (
.region [Q 4 (.mov (ci 0)),
Q 5 (.mov (ci 19))]) (
.ret)) (
.seq (
.region [V 21 0,
Q 22 (.nilck (.t 21)),
Q 23 (.faddr 0 (.t 22)),
Q 24 (.load false 1 (.t 23)),
E 25 (.callf 254 [(.t 24)]),
V 26 0,
V 27 1,
Q 28 (.len .str (.t 27)),
E 29 (.callf 255 [(.t 26), (.t 28)]),
Q 30 (.bin .lss .scalar (.t 25) (.t 29)),
V 20 30]) (
.cond (.t 20) (
.seq (
.region [Q 4 (.mov (ci 0)),
Q 5 (.mov (ci 3))]) (
.ret)) (
.skip)))))))) (
.seq (
.region [V 31 0,
V 32 1,
E 33 (.callf 256 [(.t 31), (.t 32)]),
V 6 33]) (
.seq (
.region [Q 7 (.mov (.c (.one (dc (.sl [] true)))))]) (
.seq (
.seq (
.region [V 34 6,
Q 35 (.len .sl (.t 34)),
Q 36 (.mov (ci 0))]) (
.block 1 (
.loop (
.seq (
.region [Q 37 (.bin .lss .scalar (.t 36) (.t 35))]) (
.seq (
.cond (.t 37) (
.skip) (
.exit 1)) (
.seq (
.block 2 (
.seq (
.region [V 39 0,
Q 40 (.nilck (.t 39)),
Q 41 (.faddr 0 (.t 40)),
Q 42 (.load false 1 (.t 41)),
E 43 (.callf 197 [(.t 42)]),
V 38 43,
Q 44 (.extract 0 (.t 38)),
Q 45 (.extract 1 (.t 38)),
V 8 44,
V 9 45]) (
.region [V 46 7,
V 47 8,
M 48 (.bslice 3 1 1 [dc (.int .i64 0)] [(0, 1, (.t 47))]),
E 49 (.append 3 1 8 (.t 46) (.t 48)),
V 7 49]))) (
.region [Q 50 (.bin .add .scalar (.t 36) (ci 1)),
V 36 50]))))))) (
.seq (
.region [V 51 7,
M 52 (.bslice 3 1 1 [dc (.int .i64 0)] [(0, 1, (ci 0))]),
E 53 (.append 3 1 8 (.t 51) (.t 52)),
V 7 53]) (
.seq (
.seq (
.region [V 54 6,
Q 55 (.len .sl (.t 54)),
Q 56 (.mov (ci 0))]) (
.block 3 (
.loop (
.seq (
.region [Q 57 (.bin .lss .scalar (.t 56) (.t 55))]) (
.seq (
.cond (.t 57) (
.skip) (
.exit 3)) (
.seq (
.block 4 (
.seq (
.region [V 58 56,
Q 59 (.iaddr 1 none (.t 54) (.t 56)),
Q 60 (.load false 1 (.t 59)),
V 10 58,
V 11 60]) (
.draw [W 0 61 0 0,
D 1 62 (.nilck (.t 61)) 1,
D 2 63 (.faddr 0 (.t 62)) 3,
D 3 64 (.load false 1 (.t 63)) 7,
W 4 65 7 0,
W 5 66 10 0,
D 6 67 (.iaddr 1 none (.t 65) (.t 66)) 48,
D 7 68 (.load false 1 (.t 67)) 112,
W 8 69 7 0,
W 9 70 10 0,
D 10 71 (.bin .add .scalar (.t 70) (ci 1)) 512,
D 11 72 (.iaddr 1 none (.t 69) (.t 71)) 1792,
D 12 73 (.load false 1 (.t 72)) 3840,
W 14 75 11 0,
D 15 76 (.len .sl (.t 75)) 16384,
D 16 77 (.conv (.int .u8) (.t 76)) 49152,
⟨17, ⟨some 78, .m (.bslice 5 1 1 [dc (.int .u8 0)] [(0, 1, (.t 77))]), none, 114688⟩⟩,
W 18 79 11 0,
⟨13, ⟨some 74, .e (.callf 257 [(.t 73)]), none, 7936⟩⟩,
⟨19, ⟨some 80, .e (.append 5 1 1 (.t 78) (.t 79)), none, 524032⟩⟩,
D 20 81 (.conv .b2s (.t 80)) 1048320,
D 21 82 (.bin .add .scalar (.t 74) (.t 81)) 2096896,
⟨22, ⟨some 83, .e (.callf 198 [(.t 64), (.t 68), (.t 82)]), none, 4194303⟩⟩]))) (
.region [Q 84 (.bin .add .scalar (.t 56) (ci 1)),
V 56 84]))))))) (
.seq (
.region [V 85 7,
Q 86 (.iaddr 1 none (.t 85) (ci 0)),
Q 87 (.load false 1 (.t 86)),
V 4 87,
Q 5 (.mov (ci 0))]) (
.ret))))))))
def a191 : AFunc := ⟨c191, [.tmp 4, .tmp 5], false⟩
def c192 : ACode :=
.seq (
.region [Q 0 (.mov (cs []))]) (
.seq (
.region [M 1 (.mkslice 5 1 1 [dc (.int .u8 0)] (ci 128) (ci 128)),
Q 2 (.conv .b2s (.t 1)),
V 0 2]) (
.ret))
def a192 : AFunc := ⟨c192, [.tmp 0], false⟩
def c193 : ACode :=
.seq (
.region [Q 6 (.mov (.c (.one (dc (.nilp))))),
Q 7 (.mov (ci 0))]) (
.seq (
.seq (
.region [V 12 0,
E 13 (.callf 134 [(.t 12)]),
Q 14 (.bin .eql .scalar (.t 13) (ci 0)),
V 15 14,
G 16 (.mov (.t 2)) 15 false,
G 17 (.bin .lss .scalar (.t 16) (ci 4)) 15 false,
Q 18 (.pick (.t 15) (cb true) (.t 17)),
V 19 18,
G 20 (.mov (.t 2)) 19 false,
G 21 (.bin .gtr .scalar (.t 20) (ci 1000)) 19 false,
Q 22 (.pick (.t 19) (cb true) (.t 21)),
V 23 22,
G 24 (.mov (.t 1)) 23 false,
G 25 (.bin .lss .scalar (.t 24) (ci 0)) 23 false,
Q 26 (.pick (.t 23) (cb true) (.t 25)),
V 27 26,
G 28 (.mov (.t 1)) 27 false,
G 29 (.mov (.t 0)) 27 false,
⟨some 30, .e (.callf 134 [(.t 29)]), some (27, false), 0⟩,
G 31 (.bin .gtr .scalar (.t 28) (.t 30)) 27 false,
Q 32 (.pick (.t 27) (cb true) (.t 31)),
V 33 32,
G 34 (.mov (.t 2)) 33 false,
G 35 (.mov (.t 0)) 33 false,
⟨some 36, .e (.callf 134 [(.t 35)]), some (33, false), 0⟩,
G 37 (.mov (.t 1)) 33 false,
G 38 (.bin .sub .scalar (.t 36) (.t 37)) 33 false,
G 39 (.bin .gtr .scalar (.t 34) (.t 38)) 33 false,
Q 40 (.pick (.t 33) (cb true) (.t 39))]) (
.cond (.t 40) (
.seq (
.region [Q 6 (.mov (.c (.one (dc (.nilp))))),
Q 7 (.mov (ci 1))]) (
.ret)) (
.skip))) (
.seq (
.region [V 41 0,
V 42 1,
V 43 2,
Q 44 (.bin .sub .scalar (.t 43) (ci 2)),
Q 45 (.build zl18 [(0, 1, (.t 41)), (1, 1, (.t 42)), (2, 1, (.t 44))]),
M 46 (.box 305 8 (.t 45)),
V 8 46]) (
.seq (
.region [V 48 8,
V 49 8,
V 50 8,
E 51 (.callf 258 [(.t 50), (ci 0)]),
V 47 51,
Q 52 (.extract 0 (.t 47)),
Q 53 (.extract 1 (.t 47)),
Q 54 (.nilck (.t 48)),
Q 55 (.faddr 3 (.t 54)),
S 1 55 52,
Q 56 (.nilck (.t 49)),
Q 57 (.faddr 4 (.t 56)),
S 1 57 53]) (
.seq (
.seq (
.region [V 59 8,
E 60 (.callf 258 [(.t 59), (ci 1)]),
V 58 60,
Q 61 (.extract 0 (.t 58)),
Q 62 (.extract 1 (.t 58)),
V 9 61,
V 10 62]) (
.seq (
.region [V 63 9,
V 64 8,
Q 65 (.nilck (.t 64)),
Q 66 (.faddr 3 (.t 65)),
Q 67 (.load false 1 (.t 66)),
Q 68 (.bin .gtr .scalar (.t 63) (.t 67))]) (
.cond (.t 68) (
.region [V 69 8,
V 70 8,
V 71 9,
V 72 10,
Q 73 (.nilck (.t 69)),
Q 74 (.faddr 3 (.t 73)),
S 1 74 71,
Q 75 (.nilck (.t 70)),
Q 76 (.faddr 4 (.t 75)),
S 1 76 72]) (
.skip)))) (
.seq (
.region [V 77 8,
E 78 (.callf 259 [(.t 77)])]) (
.seq (
.seq (
.region [V 79 8,
V 80 8,
Q 81 (.nilck (.t 80)),
Q 82 (.faddr 4 (.t 81)),
Q 83 (.load false 1 (.t 82)),
E 84 (.callf 260 [(.t 79), (.t 83)]),
V 11 84]) (
.seq (
.region [V 85 11,
Q 86 (.bin .neq .scalar (.t 85) (ci 0))]) (
.cond (.t 86) (
.seq (
.region [V 87 11,
Q 6 (.mov (.c (.one (dc (.nilp))))),
V 7 87]) (
.ret)) (
.skip)))) (
.seq (
.region [V 88 8,
V 6 88,
Q 7 (.mov (ci 0))]) (
.ret))))))))
def a193 : AFunc := ⟨c193, [.tmp 6, .tmp 7], false⟩
def c194 : ACode :=
.seq (
.region [Q 2 (.mov (ci 0))]) (
.seq (
.region [V 9 0,
Q 10 (.nilck (.t 9)),
Q 11 (.faddr 1 (.t 10)),
Q 12 (.load false 1 (.t 11)),
E 13 (.callf 261 [(.t 12)]),
V 3 13]) (
.seq (
.seq (
.region [V 14 3,
Q 15 (.len .sl (.t 14)),
Q 16 (.bin .eql .scalar (.t 15) (ci 0))]) (
.cond (.t 16) (
.seq (
.region [Q 2 (.mov (ci 0))]) (
.ret)) (
.skip))) (
.seq (
.seq (
.region [V 17 3,
Q 18 (.len .sl (.t 17)),
Q 19 (.mov (ci 0))]) (
.block 0 (
.loop (
.seq (
.region [Q 20 (.bin .lss .scalar (.t 19) (.t 18))]) (
.seq (
.cond (.t 20) (
.skip) (
.exit 0)) (
.seq (
.block 1 (
.seq (
.region [Q 21 (.iaddr 1 none (.t 17) (.t 19)),
Q 22 (.load false 1 (.t 21)),
V 5 22]) (
.seq (
.region [V 24 0,
V 25 5,
E 26 (.callf 262 [(.t 24), (.t 25)]),
V 23 26,
Q 27 (.extract 0 (.t 23)),
Q 28 (.extract 1 (.t 23)),
V 6 27,
V 7 28]) (
.seq (
.seq (
.region [V 29 7,
Q 30 (.un .not (.t 29))]) (
.cond (.t 30) (
.exit 1) (
.skip))) (
.seq (
.region [V 31 0,
V 32 6,
E 33 (.callf 207 [(.t 31), (.t 32)]),
V 8 33]) (
.seq (
.region [V 34 8,
Q 35 (.bin .neq .scalar (.t 34) (ci 0))]) (
.cond (.t 35) (
.seq (
.region [V 36 8,
V 2 36]) (
.ret)) (
.skip)))))))) (
.region [Q 37 (.bin .add .scalar (.t 19) (ci 1)),
V 19 37]))))))) (
.seq (
.region [V 38 0,
E 39 (.callf 208 [(.t 38)]),
V 2 39]) (
.ret)))))
def a194 : AFunc := ⟨c194, [.tmp 2], false⟩
def c195 : ACode :=
.seq (
.region [Q 2 (.mov (ci 0))]) (
.seq (
.seq (
.region [V 3 0,
E 4 (.callf 200 [(.t 3)]),
Q 5 (.un .not (.t 4))]) (
.cond (.t 5) (
.seq (
.region [Q 2 (.mov (ci 0))]) (
.ret)) (
.skip))) (
.seq (
.draw [W 0 6 0 0,
D 1 7 (.nilck (.t 6)) 1,
D 2 8 (.faddr 0 (.t 7)) 3,
D 3 9 (.load false 1 (.t 8)) 7,
W 5 11 0 0,
D 6 12 (.nilck (.t 11)) 32,
D 7 13 (.faddr 2 (.t 12)) 96,
D 8 14 (.load false 1 (.t 13)) 224,
⟨4, ⟨some 10, .e (.callf 134 [(.t 9)]), none, 15⟩⟩,
D 9 15 (.bin .sub .scalar (.t 10) (.t 14)) 511,
W 10 2 15 1023]) (
.ret)))
def a195 : AFunc := ⟨c195, [.tmp 2], false⟩
def c196 : ACode :=
.seq (
.region [Q 4 (.mov (cb false))]) (
.seq (
.seq (
.region [V 7 1,
Q 8 (.bin .eql .scalar (.t 7) (ci 0)),
V 9 8,
G 10 (.mov (.t 0)) 9 false,
G 11 (.mov (.t 1)) 9 false,
⟨some 12, .e (.callf 263 [(.t 10), (.t 11)]), some (9, false), 0⟩,
G 13 (.bin .neq .scalar (.t 12) (ci 0)) 9 false,
Q 14 (.pick (.t 9) (cb true) (.t 13))]) (
.cond (.t 14) (
.seq (
.region [Q 4 (.mov (cb false))]) (
.ret)) (
.skip))) (
.seq (
.region [V 16 0,
E 17 (.callf 199 [(.t 16), (ci 0)]),
V 15 17,
Q 18 (.extract 0 (.t 15)),
Q 19 (.extract 1 (.t 15)),
V 5 18,
V 6 19]) (
.seq (
.draw [W 0 20 5 0,
W 1 21 1 0,
D 2 22 (.bin .quo .scalar (.t 21) (ci 8)) 2,
D 3 23 (.sidx (.t 20) (.t 22)) 7,
W 4 24 1 0,
⟨5, ⟨some 25, .e (.callf 264 [(.t 24)]), none, 16⟩⟩,
D 6 26 (.bin .and .scalar (.t 23) (.t 25)) 63,
D 7 27 (.bin .eql .scalar (.t 26) (.c (.one (dc (.int .u8 0))))) 127,
W 8 4 27 255]) (
.ret))))
def a196 : AFunc := ⟨c196, [.tmp 4], false⟩
def c197 : ACode :=
.seq (
.region [Q 2 (.mov (ci 0)),
Q 3 (.mov (ci 0))]) (
.seq (
.seq (
.region [V 5 0,
E 6 (.callf 200 [(.t 5)]),
Q 7 (.un .not (.t 6))]) (
.cond (.t 7) (
.seq (
.region [Q 2 (.mov (ci 0)),
Q 3 (.mov (ci 13))]) (
.ret)) (
.skip))) (
.seq (
.seq (
.region [V 8 0,
E 9 (.callf 195 [(.t 8)]),
Q 10 (.mov (ci 0))]) (
.block 0 (
.loop (
.seq (
.region [Q 11 (.bin .lss .scalar (.t 10) (.t 9))]) (
.seq (
.cond (.t 11) (
.skip) (
.exit 0)) (
.seq (
.block 1 (
.seq (
.region [V 12 10,
V 4 12]) (
.seq (
.region [V 13 0,
V 14 4,
E 15 (.callf 196 [(.t 13), (.t 14)])]) (
.cond (.t 15) (
.seq (
.region [V 16 0,
V 17 4,
E 18 (.callf 265 [(.t 16), (.t 17)])]) (
.seq (
.draw [W 0 19 0 0,
D 1 20 (.nilck (.t 19)) 1,
D 2 21 (.faddr 3 (.t 20)) 3,
D 3 22 (.load false 1 (.t 21)) 7,
W 4 23 4 0,
⟨5, ⟨some 24, .e (.callf 266 []), none, 0⟩⟩,
⟨6, ⟨none, .e (.mapup (.int .i64) (.t 22) (.t 23) (.t 24)), none, 63⟩⟩]) (
.seq (
.region [V 25 4,
V 2 25,
Q 3 (.mov (ci 0))]) (
.ret)))) (
.skip))))) (
.region [Q 26 (.bin .add .scalar (.t 10) (ci 1)),
V 10 26]))))))) (
.seq (
.region [Q 2 (.mov (ci 0)),
Q 3 (.mov (ci 3))]) (
.ret))))
def a197 : AFunc := ⟨c197, [.tmp 2, .tmp 3], false⟩
def c198 : ACode :=
.seq (
.region [Q 6 (.mov (ci 0))]) (
.seq (
.region [V 8 0,
V 9 1,
E 10 (.callf 263 [(.t 8), (.t 9)]),
V 7 10]) (
.seq (
.block 0 (
.seq (
.region [V 12 7,
Q 13 (.bin .neq .scalar (.t 12) (ci 0)),
V 11 13]) (
.cond (.t 11) (
.seq (
.region [V 14 7,
V 6 14]) (
.ret)) (
.seq (
.region [V 16 1,
Q 17 (.bin .eql .scalar (.t 16) (ci 0)),
V 15 17]) (
.cond (.t 15) (
.seq (
.region [Q 6 (.mov (ci 1))]) (
.ret)) (
.seq (
.region [V 19 2,
Q 20 (.len .str (.t 19)),
Q 21 (.bin .gtr .scalar (.t 20) (ci 128)),
V 18 21]) (
.cond (.t 18) (
.seq (
.region [Q 6 (.mov (ci 19))]) (
.ret)) (
.skip)))))))) (
.seq (
.draw [W 0 22 0 0,
D 1 23 (.nilck (.t 22)) 1,
D 2 24 (.faddr 3 (.t 23)) 3,
D 3 25 (.load false 1 (.t 24)) 7,
W 4 26 1 0,
W 5 27 2 0,
⟨6, ⟨some 28, .e (.callf 267 [(.t 27)]), none, 32⟩⟩,
⟨7, ⟨none, .e (.mapup (.int .i64) (.t 25) (.t 26) (.t 28)), none, 127⟩⟩]) (
.seq (
.region [Q 6 (.mov (ci 0))]) (
.ret)))))
def a198 : AFunc := ⟨c198, [.tmp 6], false⟩
def c199 : ACode :=
.seq (
.region [Q 4 (.mov (cs [])),
Q 5 (.mov (ci 0))]) (
.seq (
.seq (
.region [V 9 0,
V 10 1,
E 11 (.callf 263 [(.t 9), (.t 10)]),
V 6 11]) (
.seq (
.region [V 12 6,
Q 13 (.bin .neq .scalar (.t 12) (ci 0))]) (
.cond (.t 13) (
.seq (
.region [V 14 6,
Q 4 (.mov (cs [])),
V 5 14]) (
.ret)) (
.skip)))) (
.seq (
.seq (
.region [V 16 0,
Q 17 (.nilck (.t 16)),
Q 18 (.faddr 3 (.t 17)),
Q 19 (.load false 1 (.t 18)),
V 20 1,
Q 21 (.lookup (.int .i64) (.one (dc (.str []))) true (.t 19) (.t 20)),
V 15 21,
Q 22 (.extract 0 (.t 15)),
Q 23 (.extract 1 (.t 15)),
V 7 22,
V 8 23]) (
.seq (
.region [V 24 8]) (
.cond (.t 24) (
.seq (
.region [V 25 7,
V 4 25,
Q 5 (.mov (ci 0))]) (
.ret)) (
.skip)))) (
.seq (
.draw [W 0 26 0 0,
D 1 27 (.nilck (.t 26)) 1,
D 2 28 (.faddr 0 (.t 27)) 3,
D 3 29 (.load false 1 (.t 28)) 7,
W 4 30 0 0,
D 5 31 (.nilck (.t 30)) 16,
D 6 32 (.faddr 2 (.t 31)) 48,
D 7 33 (.load false 1 (.t 32)) 112,
W 8 34 1 0,
D 9 35 (.bin .add .scalar (.t 33) (.t 34)) 496,
⟨10, ⟨some 36, .e (.callf 268 [(.t 29), (.t 35)]), none, 1023⟩⟩,
D 11 37 (.extract 0 (.t 36)) 2047,
D 12 38 (.extract 1 (.t 36)) 2047,
W 13 4 37 8191,
W 14 5 38 16383]) (
.ret))))
def a199 : AFunc := ⟨c199, [.tmp 4, .tmp 5], false⟩
def c200 : ACode :=
.seq (
.region [Q 2 (.mov (cb false))]) (
.seq (
.region [V 3 0,
Q 4 (.bin .neq .ptr (.t 3) (.c (.one (dc (.nilp))))),
V 5 4,
G 6 (.mov (.t 0)) 5 true,
G 7 (.nilck (.t 6)) 5 true,
G 8 (.faddr 0 (.t 7)) 5 true,
G 9 (.load false 1 (.t 8)) 5 true,
G 10 (.bin .neq .ptr (.t 9) (.c (.one (dc (.nilp))))) 5 true,
Q 11 (.pick (.t 5) (.t 10) (cb false)),
V 2 11]) (
.ret))
def a200 : AFunc := ⟨c200, [.tmp 2], false⟩
def c201 : ACode :=
.seq (
.region [Q 4 (.mov (cs []))]) (
.seq (
.region [V 9 1,
Q 10 (.len .map (.t 9)),
Q 11 (.conv (.int .u64) (.t 10)),
E 12 (.callf 110 [(.t 11)]),
V 5 12]) (
.seq (
.seq (
.region [V 13 0,
E 14 (.callf 195 [(.t 13)]),
Q 15 (.mov (ci 0))]) (
.block 0 (
.loop (
.seq (
.region [Q 16 (.bin .lss .scalar (.t 15) (.t 14))]) (
.seq (
.cond (.t 16) (
.skip) (
.exit 0)) (
.seq (
.block 1 (
.seq (
.region [V 17 15,
V 6 17]) (
.seq (
.region [V 19 1,
V 20 6,
Q 21 (.lookup (.int .i64) (.one (dc (.str []))) true (.t 19) (.t 20)),
V 18 21,
Q 22 (.extract 0 (.t 18)),
Q 23 (.extract 1 (.t 18)),
V 7 22,
V 8 23]) (
.seq (
.region [V 24 8]) (
.cond (.t 24) (
.region [V 25 5,
V 26 6,
Q 27 (.conv (.int .u64) (.t 26)),
E 28 (.callf 110 [(.t 27)]),
V 29 7,
E 30 (.callf 269 [(.t 29)]),
E 31 (.callf 111 [(.t 30)]),
Q 32 (.bin .add .scalar (.t 28) (.t 31)),
Q 33 (.bin .add .scalar (.t 25) (.t 32)),
V 5 33]) (
.skip)))))) (
.region [Q 34 (.bin .add .scalar (.t 15) (ci 1)),
V 15 34]))))))) (
.seq (
.region [V 35 5,
V 4 35]) (
.ret))))
def a201 : AFunc := ⟨c201, [.tmp 4], false⟩
def c202 : ACode :=
.seq (
.region [Q 4 (.mov (cb false))]) (
.seq (
.seq (
.region [V 5 0,
Q 6 (.bin .eql .ptr (.t 5) (.c (.one (dc (.nilp))))),
V 7 6,
G 8 (.mov (.t 0)) 7 false,
G 9 (.nilck (.t 8)) 7 false,
G 10 (.faddr 0 (.t 9)) 7 false,
G 11 (.load false 1 (.t 10)) 7 false,
G 12 (.bin .eql .ptr (.t 11) (.c (.one (dc (.nilp))))) 7 false,
Q 13 (.pick (.t 7) (cb true) (.t 12)),
V 14 13,
G 15 (.mov (.t 1)) 14 false,
G 16 (.bin .lss .scalar (.t 15) (ci 0)) 14 false,
Q 17 (.pick (.t 14) (cb true) (.t 16)),
V 18 17,
G 19 (.mov (.t 1)) 18 false,
G 20 (.bin .gtr .scalar (.t 19) (ci 100000)) 18 false,
Q 21 (.pick (.t 18) (cb true) (.t 20))]) (
.cond (.t 21) (
.seq (
.region [Q 4 (.mov (cb false))]) (
.ret)) (
.skip))) (
.seq (
.draw [W 0 22 1 0,
D 1 23 (.bin .add .scalar (.t 22) (ci 100)) 1,
D 2 24 (.bin .sub .scalar (.t 23) (ci 1)) 3,
D 3 25 (.bin .quo .scalar (.t 24) (ci 100)) 7,
D 4 26 (.mnmx true (ci 1) (.t 25)) 15,
W 5 27 0 0,
D 6 28 (.nilck (.t 27)) 32,
D 7 29 (.faddr 2 (.t 28)) 96,
D 8 30 (.load false 1 (.t 29)) 224,
W 9 31 0 0,
D 10 32 (.nilck (.t 31)) 512,
D 11 33 (.faddr 5 (.t 32)) 1536,
D 12 34 (.load false 1 (.t 33)) 3584,
D 13 35 (.bin .sub .scalar (.t 30) (.t 34)) 8160,
D 14 36 (.bin .leq .scalar (.t 26) (.t 35)) 16383,
W 15 4 36 32767]) (
.ret)))
def a202 : AFunc := ⟨c202, [.tmp 4], false⟩
def c203 : ACode :=
.seq (
.region [Q 2 (.mov (ci 0))]) (
.seq (
.draw [D 0 3 (.load false 1 (.t 0)) 0,
D 1 4 (.nilck (.t 3)) 1,
D 2 5 (.faddr 1 (.t 4)) 3,
D 3 6 (.load false 1 (.t 5)) 7,
D 4 7 (.load false 1 (.t 1)) 0,
⟨5, ⟨some 8, .e (.callf 204 [(.t 6), (.t 7)]), none, 31⟩⟩,
W 6 2 8 63]) (
.ret))
def a203 : AFunc := ⟨c203, [.tmp 2], false⟩
def c204 : ACode :=
.seq (
.region [Q 4 (.mov (ci 0))]) (
.seq (
.seq (
.region [V 12 0,
E 13 (.callf 270 [(.t 12)]),
V 5 13]) (
.seq (
.region [V 14 5,
Q 15 (.bin .neq .scalar (.t 14) (ci 0))]) (
.cond (.t 15) (
.seq (
.region [V 16 5,
V 4 16]) (
.ret)) (
.skip)))) (
.seq (
.seq (
.region [V 17 0,
V 18 1,
Q 19 (.len .str (.t 18)),
E 20 (.callf 202 [(.t 17), (.t 19)]),
Q 21 (.un .not (.t 20))]) (
.cond (.t 21) (
.seq (
.region [Q 4 (.mov (ci 3))]) (
.ret)) (
.skip))) (
.seq (
.region [V 22 1,
E 23 (.callf 271 [(.t 22)]),
V 6 23]) (
.seq (
.seq (
.region [V 24 6,
Q 25 (.len .sl (.t 24)),
Q 26 (.mov (ci 0))]) (
.block 0 (
.loop (
.seq (
.region [Q 27 (.bin .lss .scalar (.t 26) (.t 25))]) (
.seq (
.cond (.t 27) (
.skip) (
.exit 0)) (
.seq (
.block 1 (
.seq (
.region [V 28 26,
Q 29 (.iaddr 1 none (.t 24) (.t 26)),
Q 30 (.load false 1 (.t 29)),
V 7 28,
V 8 30]) (
.seq (
.region [Q 9 (.mov (ci 1))]) (
.seq (
.seq (
.region [V 31 7,
V 32 6,
Q 33 (.len .sl (.t 32)),
Q 34 (.bin .sub .scalar (.t 33) (ci 1)),
Q 35 (.bin .eql .scalar (.t 31) (.t 34))]) (
.cond (.t 35) (
.region [Q 9 (.mov (ci 0))]) (
.skip))) (
.seq (
.region [V 36 0,
Q 37 (.nilck (.t 36)),
Q 38 (.faddr 5 (.t 37)),
Q 39 (.load false 1 (.t 38)),
V 40 7,
Q 41 (.bin .add .scalar (.t 39) (.t 40)),
V 10 41]) (
.seq (
.draw [W 0 42 0 0,
W 1 43 0 0,
D 2 44 (.nilck (.t 43)) 2,
D 3 45 (.faddr 0 (.t 44)) 6,
D 4 46 (.load false 1 (.t 45)) 14,
W 5 47 0 0,
D 6 48 (.nilck (.t 47)) 32,
D 7 49 (.faddr 1 (.t 48)) 96,
D 8 50 (.load false 1 (.t 49)) 224,
D 9 51 (.bin .add .scalar (.t 50) (ci 2)) 480,
W 10 52 10 0,
D 11 53 (.bin .add .scalar (.t 51) (.t 52)) 2016,
W 12 54 0 0,
D 13 55 (.nilck (.t 54)) 4096,
D 14 56 (.faddr 3 (.t 55)) 12288,
D 15 57 (.load false 1 (.t 56)) 28672,
W 16 58 10 0,
W 17 59 9 0,
W 19 61 1 0,
W 22 64 8 0,
⟨18, ⟨some 60, .e (.callf 275 [(.t 57), (.t 58), (.t 59)]), none, 258048⟩⟩,
⟨20, ⟨some 62, .e (.callf 276 [(.t 61)]), none, 1044480⟩⟩,
D 21 63 (.bin .add .scalar (.t 60) (.t 62)) 2093056,
D 23 65 (.bin .add .scalar (.t 63) (.t 64)) 8384512,
⟨24, ⟨some 66, .e (.callf 274 [(.t 65)]), none, 16773120⟩⟩,
⟨25, ⟨some 67, .e (.callf 273 [(.t 46), (.t 53), (.t 66)]), none, 33554430⟩⟩,
⟨26, ⟨some 68, .e (.callf 272 [(.t 42), (.t 67)]), none, 67108863⟩⟩,
W 27 11 68 134217727]) (
.seq (
.region [V 69 11,
Q 70 (.bin .neq .scalar (.t 69) (ci 0))]) (
.cond (.t 70) (
.seq (
.region [V 71 11,
V 4 71]) (
.ret)) (
.skip))))))))) (
.region [Q 72 (.bin .add .scalar (.t 26) (ci 1)),
V 26 72]))))))) (
.seq (
.region [V 73 0,
V 74 0,
Q 75 (.nilck (.t 74)),
Q 76 (.faddr 6 (.t 75)),
Q 77 (.load false 1 (.t 76)),
V 78 1,
M 79 (.bslice 9 1 1 [dc (.str [])] [(0, 1, (.t 78))]),
E 80 (.append 9 1 16 (.t 77) (.t 79)),
Q 81 (.nilck (.t 73)),
Q 82 (.faddr 6 (.t 81)),
S 1 82 80]) (
.seq (
.region [V 83 0,
Q 84 (.nilck (.t 83)),
Q 85 (.faddr 5 (.t 84)),
Q 86 (.load false 1 (.t 85)),
V 87 6,
Q 88 (.len .sl (.t 87)),
Q 89 (.bin .add .scalar (.t 86) (.t 88)),
Q 90 (.nilck (.t 83)),
Q 91 (.faddr 5 (.t 90)),
S 1 91 89]) (
.seq (
.region [Q 4 (.mov (ci 0))]) (
.ret))))))))
def a204 : AFunc := ⟨c204, [.tmp 4], false⟩
def c205 : ACode :=
.seq (
.region [Q 2 (.mov (ci 0))]) (
.seq (
.seq (
.region [V 4 0,
E 5 (.callf 270 [(.t 4)]),
V 3 5]) (
.seq (
.region [V 6 3,
Q 7 (.bin .neq .scalar (.t 6) (ci 0))]) (
.cond (.t 7) (
.seq (
.region [V 8 3,
V 2 8]) (
.ret)) (
.skip)))) (
.seq (
.region [V 9 0,
V 10 0,
Q 11 (.nilck (.t 10)),
Q 12 (.faddr 0 (.t 11)),
Q 13 (.load false 1 (.t 12)),
E 14 (.callf 277 [(.t 13)]),
E 15 (.callf 272 [(.t 9), (.t 14)]),
V 2 15]) (
.ret)))
def a205 : AFunc := ⟨c205, [.tmp 2], false⟩
def c206 : ACode :=
.seq (
.region [Q 1 (.mov (ci 0))]) (
.seq (
.draw [D 0 2 (.load false 1 (.t 0)) 0,
D 1 3 (.load false 1 (.t 0)) 0,
D 2 4 (.nilck (.t 3)) 2,
D 3 5 (.faddr 3 (.t 4)) 6,
D 4 6 (.load false 1 (.t 5)) 14,
⟨5, ⟨some 7, .e (.callf 207 [(.t 2), (.t 6)]), none, 31⟩⟩,
W 6 1 7 63]) (
.ret))
def a206 : AFunc := ⟨c206, [.tmp 1], false⟩
def c207 : ACode :=
.seq (
.region [Q 4 (.mov (ci 0))]) (
.seq (
.seq (
.region [V 9 0,
E 10 (.callf 195 [(.t 9)]),
Q 11 (.mov (ci 0))]) (
.block 0 (
.loop (
.seq (
.region [Q 12 (.bin .lss .scalar (.t 11) (.t 10))]) (
.seq (
.cond (.t 12) (
.skip) (
.exit 0)) (
.seq (
.block 1 (
.seq (
.region [V 13 11,
V 5 13]) (
.seq (
.region [V 15 1,
V 16 5,
Q 17 (.lookup (.int .i64) (.one (dc (.str []))) true (.t 15) (.t 16)),
V 14 17,
Q 18 (.extract 0 (.t 14)),
Q 19 (.extract 1 (.t 14)),
V 6 18,
V 7 19]) (
.seq (
.seq (
.region [V 20 7,
Q 21 (.un .not (.t 20))]) (
.cond (.t 21) (
.exit 1) (
.skip))) (
.seq (
.draw [W 0 22 0 0,
D 1 23 (.nilck (.t 22)) 1,
D 2 24 (.faddr 0 (.t 23)) 3,
D 3 25 (.load false 1 (.t 24)) 7,
W 4 26 0 0,
D 5 27 (.nilck (.t 26)) 16,
D 6 28 (.faddr 2 (.t 27)) 48,
D 7 29 (.load false 1 (.t 28)) 112,
W 8 30 5 0,
D 9 31 (.bin .add .scalar (.t 29) (.t 30)) 496,
W 10 32 6 0,
⟨11, ⟨some 33, .e (.callf 273 [(.t 25), (.t 31), (.t 32)]), none, 2047⟩⟩,
W 12 8 33 4095]) (
.seq (
.region [V 34 8,
Q 35 (.bin .neq .scalar (.t 34) (ci 0))]) (
.cond (.t 35) (
.seq (
.region [V 36 8,
V 4 36]) (
.ret)) (
.skip)))))))) (
.region [Q 37 (.bin .add .scalar (.t 11) (ci 1)),
V 11 37]))))))) (
.seq (
.region [Q 4 (.mov (ci 0))]) (
.ret)))
def a207 : AFunc := ⟨c207, [.tmp 4], false⟩
def c208 : ACode :=
.seq (
.region [Q 2 (.mov (ci 0))]) (
.seq (
.seq (
.region [V 4 0,
Q 5 (.nilck (.t 4)),
Q 6 (.faddr 0 (.t 5)),
Q 7 (.load false 1 (.t 6)),
E 8 (.callf 277 [(.t 7)]),
V 3 8]) (
.seq (
.region [V 9 3,
Q 10 (.bin .neq .scalar (.t 9) (ci 0))]) (
.cond (.t 10) (
.seq (
.region [V 11 3,
V 2 11]) (
.ret)) (
.skip)))) (
.seq (
.region [V 12 0,
Q 13 (.nilck (.t 12)),
Q 14 (.faddr 1 (.t 13)),
Q 15 (.load false 1 (.t 14)),
E 16 (.callf 278 [(.t 15)]),
V 2 16]) (
.ret)))
def a208 : AFunc := ⟨c208, [.tmp 2], false⟩
def c209 : ACode :=
.seq (
.seq (
.region [V 4 0,
E 5 (.callf 200 [(.t 4)]),
Q 6 (.un .not (.t 5))]) (
.cond (.t 6) (
.ret) (
.skip))) (
.seq (
.region [V 7 0,
E 8 (.callf 279 [(.t 7)]),
Q 9 (.len .sl (.t 8)),
Q 10 (.mov (ci 0))]) (
.block 0 (
.loop (
.seq (
.region [Q 11 (.bin .lss .scalar (.t 10) (.t 9))]) (
.seq (
.cond (.t 11) (
.skip) (
.exit 0)) (
.seq (
.block 1 (
.seq (
.region [Q 12 (.iaddr 1 none (.t 8) (.t 10)),
Q 13 (.load false 1 (.t 12)),
V 3 13]) (
.region [V 14 0,
Q 15 (.nilck (.t 14)),
Q 16 (.faddr 3 (.t 15)),
Q 17 (.load false 1 (.t 16)),
V 18 3,
⟨none, .e (.del (.int .i64) (.t 17) (.t 18)), none, 0⟩]))) (
.region [Q 19 (.bin .add .scalar (.t 10) (ci 1)),
V 10 19])))))))
def a209 : AFunc := ⟨c209, [], false⟩
def c210 : ACode :=
.seq (
.region [Q 2 (.mov (cb false))]) (
.seq (
.region [V 3 0,
Q 4 (.bin .neq .ptr (.t 3) (.c (.one (dc (.nilp))))),
V 5 4,
G 6 (.mov (.t 0)) 5 true,
G 7 (.nilck (.t 6)) 5 true,
G 8 (.faddr 0 (.t 7)) 5 true,
G 9 (.load false 1 (.t 8)) 5 true,
G 10 (.bin .neq .ptr (.t 9) (.c (.one (dc (.nilp))))) 5 true,
Q 11 (.pick (.t 5) (.t 10) (cb false)),
V 2 11]) (
.ret))
def a210 : AFunc := ⟨c210, [.tmp 2], false⟩
def c211 : ACode :=
.seq (
.region [Q 2 (.mov (ci 0))]) (
.seq (
.region [V 6 0,
Q 7 (.nilck (.t 6)),
Q 8 (.faddr 0 (.t 7)),
Q 9 (.load false 1 (.t 8)),
E 10 (.callf 199 [(.t 9), (ci 1)]),
V 5 10,
Q 11 (.extract 0 (.t 5)),
Q 12 (.extract 1 (.t 5)),
V 3 11,
V 4 12]) (
.seq (
.draw [W 0 13 3 0,
D 1 14 (.sidx (.t 13) (ci 1)) 1,
W 2 15 3 0,
D 3 16 (.sidx (.t 15) (ci 2)) 4,
⟨4, ⟨some 17, .e (.callf 280 [(.t 14), (.t 16)]), none, 15⟩⟩,
W 5 2 17 31]) (
.ret)))
def a211 : AFunc := ⟨c211, [.tmp 2], false⟩
def c212 : ACode :=
.seq (
.region [Q 4 (.mov (cs [])),
Q 5 (.mov (ci 0))]) (
.seq (
.region [V 10 0,
V 11 1,
E 12 (.callf 252 [(.t 10), (.t 11)]),
V 9 12,
Q 13 (.extract 0 (.t 9)),
Q 14 (.extract 1 (.t 9)),
Q 15 (.extract 2 (.t 9)),
V 6 13,
V 7 14,
V 8 15]) (
.seq (
.region [V 16 7,
V 17 8,
V 4 16,
V 5 17]) (
.ret)))
def a212 : AFunc := ⟨c212, [.tmp 4, .tmp 5], false⟩
def c213 : ACode :=
.seq (
.region [Q 1 (.mov (ci 0))]) (
.seq (
.region [Q 2 (.load false 1 (.t 0)),
E 3 (.callf 160 [(.t 2)]),
Q 4 (.bin .rem .scalar (.t 3) (.c (.one (dc (.int .u64 65536))))),
Q 5 (.conv (.int .i64) (.t 4)),
V 1 5]) (
.ret))
def a213 : AFunc := ⟨c213, [.tmp 1], false⟩
def c214 : ACode :=
.seq (
.region [M 1 (.box 63 2 (.t 0)),
Q 2 (.mov (cs []))]) (
.seq (
.draw [D 0 6 (.faddr 0 (.t 1)) 0,
D 1 7 (.load false 1 (.t 6)) 1,
D 2 8 (.conv (.int .u64) (.t 7)) 3,
D 4 10 (.faddr 1 (.t 1)) 0,
D 5 11 (.load false 1 (.t 10)) 16,
D 6 12 (.len .sl (.t 11)) 48,
D 7 13 (.conv (.int .u64) (.t 12)) 112,
⟨3, ⟨some 9, .e (.callf 110 [(.t 8)]), none, 7⟩⟩,
⟨8, ⟨some 14, .e (.callf 110 [(.t 13)]), none, 255⟩⟩,
D 9 15 (.bin .add .scalar (.t 9) (.t 14)) 511,
W 10 3 15 1023]) (
.seq (
.seq (
.region [Q 16 (.faddr 1 (.t 1)),
Q 17 (.load false 1 (.t 16)),
Q 18 (.len .sl (.t 17)),
Q 19 (.mov (ci 0))]) (
.block 0 (
.loop (
.seq (
.region [Q 20 (.bin .lss .scalar (.t 19) (.t 18))]) (
.seq (
.cond (.t 20) (
.skip) (
.exit 0)) (
.seq (
.block 1 (
.seq (
.region [Q 21 (.iaddr 1 none (.t 17) (.t 19)),
Q 22 (.load false 1 (.t 21)),
V 5 22]) (
.region [V 23 3,
V 24 5,
Q 25 (.conv (.int .u64) (.t 24)),
E 26 (.callf 110 [(.t 25)]),
Q 27 (.bin .add .scalar (.t 23) (.t 26)),
V 3 27]))) (
.region [Q 28 (.bin .add .scalar (.t 19) (ci 1)),
V 19 28]))))))) (
.seq (
.region [V 29 3,
V 2 29]) (
.ret))))
def a214 : AFunc := ⟨c214, [.tmp 2], false⟩
def c215 : ACode :=
.seq (
.region [M 2 (.box 26 2 (.t 0)),
M 3 (.box 26 2 (.t 1)),
M 4 (.alloc 26 2 zl7),
Q 5 (.mov (cb false))]) (
.seq (
.region [Q 7 (.faddr 0 (.t 2)),
Q 8 (.load false 1 (.t 7)),
Q 9 (.faddr 0 (.t 3)),
Q 10 (.load false 1 (.t 9)),
Q 11 (.mnmx true (.t 8) (.t 10)),
Q 12 (.faddr 1 (.t 2)),
Q 13 (.load false 1 (.t 12)),
Q 14 (.faddr 1 (.t 3)),
Q 15 (.load false 1 (.t 14)),
Q 16 (.mnmx false (.t 13) (.t 15)),
Q 17 (.build zl7 [(0, 1, (.t 11)), (1, 1, (.t 16))]),
M 6 (.alloc 26 2 zl7),
S 2 6 17]) (
.seq (
.seq (
.region [Q 18 (.load true 2 (.t 2)),
E 19 (.callf 45 [(.t 18)]),
Q 20 (.un .not (.t 19)),
V 21 20,
G 22 (.load true 2 (.t 3)) 21 false,
⟨some 23, .e (.callf 45 [(.t 22)]), some (21, false), 0⟩,
G 24 (.un .not (.t 23)) 21 false,
Q 25 (.pick (.t 21) (cb true) (.t 24)),
V 26 25,
G 27 (.load true 2 (.t 6)) 26 false,
⟨some 28, .e (.callf 45 [(.t 27)]), some (26, false), 0⟩,
G 29 (.un .not (.t 28)) 26 false,
Q 30 (.pick (.t 26) (cb true) (.t 29))]) (
.cond (.t 30) (
.seq (
.region [Q 31 (.build zl7 []),
S 2 4 31,
Q 5 (.mov (cb false))]) (
.ret)) (
.skip))) (
.seq (
.region [Q 32 (.load true 2 (.t 6)),
S 2 4 32,
Q 5 (.mov (cb true))]) (
.ret))))
def a215 : AFunc := ⟨c215, [.cell 4 true 2, .tmp 5], true⟩
def c216 : ACode :=
.seq (
.region [Q 2 (.mov (cb false))]) (
.seq (
.seq (
.region [V 7 0,
M 8 (.range true (.t 7))]) (
.block 0 (
.loop (
.seq (
.region [E 9 (.next true (.t 8)),
Q 10 (.extract 0 (.t 9))]) (
.seq (
.cond (.t 10) (
.skip) (
.exit 0)) (
.block 1 (
.seq (
.region [Q 11 (.extract 1 (.t 9)),
Q 12 (.extract 2 (.t 9)),
V 3 11,
V 4 12]) (
.seq (
.region [V 13 4,
Q 14 (.bin .geq .scalar (.t 13) (.c (.one (dc (.int .i32 48))))),
V 15 14,
G 16 (.mov (.t 4)) 15 true,
G 17 (.bin .leq .scalar (.t 16) (.c (.one (dc (.int .i32 57))))) 15 true,
Q 18 (.pick (.t 15) (.t 17) (cb false)),
V 5 18]) (
.seq (
.region [V 19 4,
Q 20 (.bin .geq .scalar (.t 19) (.c (.one (dc (.int .i32 97))))),
V 21 20,
G 22 (.mov (.t 4)) 21 true,
G 23 (.bin .leq .scalar (.t 22) (.c (.one (dc (.int .i32 122))))) 21 true,
Q 24 (.pick (.t 21) (.t 23) (cb false)),
V 25 24,
G 26 (.mov (.t 4)) 25 false,
G 27 (.bin .eql .scalar (.t 26) (.c (.one (dc (.int .i32 95))))) 25 false,
Q 28 (.pick (.t 25) (cb true) (.t 27)),
V 6 28]) (
.seq (
.region [V 29 6,
Q 30 (.un .not (.t 29)),
V 31 30,
G 32 (.mov (.t 5)) 31 true,
G 33 (.un .not (.t 32)) 31 true,
G 34 (.mov (.t 33)) 31 true,
G 35 (.mov (.t 3)) 34 false,
G 36 (.bin .eql .scalar (.t 35) (ci 0)) 34 false,
G 37 (.pick (.t 34) (cb true) (.t 36)) 31 true,
Q 38 (.pick (.t 31) (.t 37) (cb false))]) (
.cond (.t 38) (
.seq (
.region [Q 2 (.mov (cb false))]) (
.ret)) (
.skip)))))))))))) (
.seq (
.region [V 39 0,
Q 40 (.bin .neq .scalar (.t 39) (cs [])),
V 41 40,
G 42 (.mov (.t 0)) 41 true,
G 43 (.len .str (.t 42)) 41 true,
G 44 (.bin .leq .scalar (.t 43) (ci 32)) 41 true,
Q 45 (.pick (.t 41) (.t 44) (cb false)),
V 2 45]) (
.ret)))
def a216 : AFunc := ⟨c216, [.tmp 2], true⟩
def c217 : ACode :=
.seq (
.region [M 2 (.box 185 3 (.t 0)),
M 3 (.box 128 4 (.t 1)),
Q 4 (.mov (cb false))]) (
.seq (
.seq (
.region [Q 5 (.faddr 0 (.t 3)),
Q 6 (.load false 1 (.t 5)),
Q 7 (.bin .eql .scalar (.t 6) (ci 0))]) (
.cond (.t 7) (
.seq (
.region [Q 8 (.faddr 2 (.t 2)),
Q 9 (.load false 1 (.t 8)),
Q 10 (.un .not (.t 9)),
V 11 10,
G 12 (.load true 4 (.t 3)) 11 true,
⟨some 13, .e (.callf 158 [(.t 12)]), some (11, true), 0⟩,
Q 14 (.pick (.t 11) (.t 13) (cb false)),
V 4 14]) (
.ret)) (
.skip))) (
.seq (
.region [Q 15 (.faddr 0 (.t 3)),
Q 16 (.load false 1 (.t 15)),
Q 17 (.faddr 1 (.t 2)),
Q 18 (.load false 1 (.t 17)),
Q 19 (.bin .eql .scalar (.t 16) (.t 18)),
V 20 19,
G 21 (.load true 4 (.t 3)) 20 true,
⟨some 22, .e (.callf 158 [(.t 21)]), some (20, true), 0⟩,
Q 23 (.pick (.t 20) (.t 22) (cb false)),
V 4 23]) (
.ret)))
def a217 : AFunc := ⟨c217, [.tmp 4], true⟩
def c218 : ACode :=
.seq (
.region [Q 4 (.mov (cb false))]) (
.seq (
.seq (
.region [V 7 0,
Q 8 (.len .sl (.t 7)),
Q 9 (.mov (ci 0))]) (
.block 0 (
.loop (
.seq (
.region [Q 10 (.bin .lss .scalar (.t 9) (.t 8))]) (
.seq (
.cond (.t 10) (
.skip) (
.exit 0)) (
.seq (
.block 1 (
.seq (
.region [Q 11 (.iaddr 4 none (.t 7) (.t 9)),
Q 12 (.load true 4 (.t 11)),
M 6 (.alloc 128 4 zl5),
S 4 6 12]) (
.seq (
.region [Q 13 (.load true 4 (.t 6)),
E 14 (.callf 158 [(.t 13)]),
Q 15 (.un .not (.t 14))]) (
.cond (.t 15) (
.seq (
.region [Q 4 (.mov (cb false))]) (
.ret)) (
.skip))))) (
.region [Q 16 (.bin .add .scalar (.t 9) (ci 1)),
V 9 16]))))))) (
.seq (
.region [V 17 0,
Q 18 (.len .sl (.t 17)),
Q 19 (.bin .gtr .scalar (.t 18) (ci 0)),
V 20 19,
G 21 (.mov (.t 0)) 20 true,
G 22 (.len .sl (.t 21)) 20 true,
G 23 (.mov (.t 1)) 20 true,
G 24 (.bin .leq .scalar (.t 22) (.t 23)) 20 true,
Q 25 (.pick (.t 20) (.t 24) (cb false)),
V 4 25]) (
.ret)))
def a218 : AFunc := ⟨c218, [.tmp 4], true⟩
def c219 : ACode :=
.seq (
.region [M 1 (.box 26 2 (.t 0)),
Q 2 (.mov (cb false))]) (
.seq (
.region [Q 3 (.faddr 0 (.t 1)),
Q 4 (.load false 1 (.t 3)),
Q 5 (.bin .geq .scalar (.t 4) (ci 0)),
V 6 5,
G 7 (.faddr 0 (.t 1)) 6 true,
G 8 (.load false 1 (.t 7)) 6 true,
G 9 (.faddr 1 (.t 1)) 6 true,
G 10 (.load false 1 (.t 9)) 6 true,
G 11 (.bin .lss .scalar (.t 8) (.t 10)) 6 true,
Q 12 (.pick (.t 6) (.t 11) (cb false)),
V 13 12,
G 14 (.faddr 1 (.t 1)) 13 true,
G 15 (.load false 1 (.t 14)) 13 true,
G 16 (.bin .leq .scalar (.t 15) (ci 1099511627776)) 13 true,
Q 17 (.pick (.t 13) (.t 16) (cb false)),
V 2 17]) (
.ret))
def a219 : AFunc := ⟨c219, [.tmp 2], true⟩
def c220 : ACode :=
.seq (
.region [M 2 (.box 36 3 (.t 0)),
M 3 (.box 36 3 (.t 1)),
Q 4 (.mov (cb false))]) (
.seq (
.seq (
.region [Q 6 (.faddr 0 (.t 2)),
Q 7 (.load false 1 (.t 6)),
Q 8 (.faddr 0 (.t 3)),
Q 9 (.load false 1 (.t 8)),
Q 10 (.bin .neq .scalar (.t 7) (.t 9)),
V 11 10,
G 12 (.faddr 2 (.t 2)) 11 false,
G 13 (.load false 1 (.t 12)) 11 false,
G 14 (.faddr 2 (.t 3)) 11 false,
G 15 (.load false 1 (.t 14)) 11 false,
G 16 (.bin .neq .scalar (.t 13) (.t 15)) 11 false,
Q 17 (.pick (.t 11) (cb true) (.t 16)),
V 18 17,
G 19 (.faddr 1 (.t 2)) 18 false,
G 20 (.load false 1 (.t 19)) 18 false,
G 21 (.len .sl (.t 20)) 18 false,
G 22 (.faddr 1 (.t 3)) 18 false,
G 23 (.load false 1 (.t 22)) 18 false,
G 24 (.len .sl (.t 23)) 18 false,
G 25 (.bin .neq .scalar (.t 21) (.t 24)) 18 false,
Q 26 (.pick (.t 18) (cb true) (.t 25))]) (
.cond (.t 26) (
.seq (
.region [Q 4 (.mov (cb false))]) (
.ret)) (
.skip))) (
.seq (
.seq (
.region [Q 27 (.faddr 1 (.t 2)),
Q 28 (.load false 1 (.t 27)),
Q 29 (.len .sl (.t 28)),
Q 30 (.mov (ci 0))]) (
.block 0 (
.loop (
.seq (
.region [Q 31 (.bin .lss .scalar (.t 30) (.t 29))]) (
.seq (
.cond (.t 31) (
.skip) (
.exit 0)) (
.seq (
.block 1 (
.seq (
.region [V 32 30,
V 5 32]) (
.seq (
.draw [D 0 33 (.faddr 1 (.t 2)) 0,
D 1 34 (.load false 1 (.t 33)) 1,
W 2 35 5 0,
D 3 36 (.iaddr 3 none (.t 34) (.t 35)) 7,
D 4 37 (.load true 3 (.t 36)) 15,
D 5 38 (.faddr 1 (.t 3)) 0,
D 6 39 (.load false 1 (.t 38)) 32,
W 7 40 5 0,
D 8 41 (.iaddr 3 none (.t 39) (.t 40)) 224,
D 9 42 (.load true 3 (.t 41)) 480,
D 10 43 (.bin .neq (.agg [.str, .int, .bool]) (.t 37) (.t 42)) 1023]) (
.cond (.t 43) (
.seq (
.region [Q 4 (.mov (cb false))]) (
.ret)) (
.skip))))) (
.region [Q 44 (.bin .add .scalar (.t 30) (ci 1)),
V 30 44]))))))) (
.seq (
.region [Q 4 (.mov (cb true))]) (
.ret))))
def a220 : AFunc := ⟨c220, [.tmp 4], true⟩
def c221 : ACode :=
.seq (
.region [Q 2 (.mov (cb false))]) (
.seq (
.seq (
.region [V 5 0,
Q 6 (.len .sl (.t 5)),
Q 7 (.mov (ci 0))]) (
.block 0 (
.loop (
.seq (
.region [Q 8 (.bin .lss .scalar (.t 7) (.t 6))]) (
.seq (
.cond (.t 8) (
.skip) (
.exit 0)) (
.seq (
.block 1 (
.seq (
.region [Q 9 (.iaddr 4 none (.t 5) (.t 7)),
Q 10 (.load true 4 (.t 9)),
M 4 (.alloc 128 4 zl5),
S 4 4 10]) (
.seq (
.region [Q 11 (.load true 4 (.t 4)),
E 12 (.callf 158 [(.t 11)]),
Q 13 (.un .not (.t 12))]) (
.cond (.t 13) (
.seq (
.region [Q 2 (.mov (cb false))]) (
.ret)) (
.skip))))) (
.region [Q 14 (.bin .add .scalar (.t 7) (ci 1)),
V 7 14]))))))) (
.seq (
.region [V 15 0,
Q 16 (.len .sl (.t 15)),
Q 17 (.bin .leq .scalar (.t 16) (ci 8)),
V 2 17]) (
.ret)))
def a221 : AFunc := ⟨c221, [.tmp 2], true⟩
def c222 : ACode :=
.seq (
.region [M 1 (.box 128 4 (.t 0)),
Q 2 (.mov (cs []))]) (
.seq (
.region [Q 4 (.mkfn (.func 281) 281 [] [(.t 1)]),
V 3 4]) (
.seq (
.seq (
.region [Q 5 (.faddr 0 (.t 1)),
Q 6 (.load false 1 (.t 5))]) (
.block 0 (
.seq (
.region [Q 8 (.bin .eql .scalar (.t 6) (ci 1)),
V 7 8]) (
.cond (.t 7) (
.seq (
.region [V 9 3,
Q 10 (.faddr 1 (.t 1)),
Q 11 (.load false 1 (.t 10)),
Q 12 (.conv (.int .u8) (.t 11)),
M 13 (.bslice 5 1 1 [dc (.int .u8 0)] [(0, 1, (.t 12))]),
Q 14 (.conv .b2s (.t 13)),
E 15 (.callv (.t 9) [(.t 14)]),
V 2 15]) (
.ret)) (
.seq (
.region [Q 17 (.bin .eql .scalar (.t 6) (ci 2)),
V 16 17]) (
.cond (.t 16) (
.seq (
.region [V 18 3,
Q 19 (.faddr 1 (.t 1)),
Q 20 (.load false 1 (.t 19)),
Q 21 (.conv (.int .u64) (.t 20)),
Q 22 (.bin .xor .scalar (.t 21) (.c (.one (dc (.int .u64 9223372036854775808))))),
E 23 (.callf 282 [(.t 22)]),
E 24 (.callv (.t 18) [(.t 23)]),
V 2 24]) (
.ret)) (
.seq (
.region [Q 26 (.bin .eql .scalar (.t 6) (ci 3)),
V 25 26]) (
.cond (.t 25) (
.seq (
.region [V 27 3,
Q 28 (.faddr 2 (.t 1)),
Q 29 (.load false 1 (.t 28)),
E 30 (.callf 283 [(.t 29)]),
E 31 (.callf 282 [(.t 30)]),
E 32 (.callv (.t 27) [(.t 31)]),
V 2 32]) (
.ret)) (
.seq (
.seq (
.region [Q 34 (.bin .eql .scalar (.t 6) (ci 4)),
V 33 34]) (
.cond (.t 33) (
.skip) (
.region [Q 35 (.bin .eql .scalar (.t 6) (ci 5)),
V 33 35]))) (
.cond (.t 33) (
.seq (
.region [V 36 3,
Q 37 (.faddr 3 (.t 1)),
Q 38 (.load false 1 (.t 37)),
E 39 (.callf 284 [(.t 38)]),
E 40 (.callv (.t 36) [(.t 39)]),
V 2 40]) (
.ret)) (
.skip))))))))))) (
.seq (
.region [V 41 3,
E 42 (.callv (.t 41) [(cs [])]),
V 2 42]) (
.ret))))
def a222 : AFunc := ⟨c222, [.tmp 2], true⟩
def c223 : ACode :=
.seq (
.region [Q 2 (.mov (.c (.one (dc (.sl [] true)))))]) (
.seq (
.region [Q 3 (.mov (.c (.one (dc (.sl [] true)))))]) (
.seq (
.seq (
.region [V 6 0,
Q 7 (.len .sl (.t 6)),
Q 8 (.mov (ci 0))]) (
.block 0 (
.loop (
.seq (
.region [Q 9 (.bin .lss .scalar (.t 8) (.t 7))]) (
.seq (
.cond (.t 9) (
.skip) (
.exit 0)) (
.seq (
.block 1 (
.seq (
.region [Q 10 (.iaddr 2 none (.t 6) (.t 8)),
Q 11 (.load true 2 (.t 10)),
M 5 (.alloc 26 2 zl7),
S 2 5 11]) (
.seq (
.region [Q 12 (.load true 2 (.t 5)),
E 13 (.callf 45 [(.t 12)])]) (
.cond (.t 13) (
.region [V 14 3,
Q 15 (.load true 2 (.t 5)),
M 16 (.bslice 26 2 1 zl7 [(0, 2, (.t 15))]),
E 17 (.append 26 2 16 (.t 14) (.t 16)),
V 3 17]) (
.skip))))) (
.region [Q 18 (.bin .add .scalar (.t 8) (ci 1)),
V 8 18]))))))) (
.seq (
.region [V 19 3,
V 2 19]) (
.ret))))
def a223 : AFunc := ⟨c223, [.tmp 2], true⟩
def c224 : ACode :=
.seq (
.region [M 2 (.box 98 3 (.t 0)),
Q 3 (.mov (cb false))]) (
.seq (
.seq (
.region [Q 6 (.load false 1 (.t 1)),
Q 7 (.len .sl (.t 6)),
Q 8 (.mov (ci 0))]) (
.block 0 (
.loop (
.seq (
.region [Q 9 (.bin .lss .scalar (.t 8) (.t 7))]) (
.seq (
.cond (.t 9) (
.skip) (
.exit 0)) (
.seq (
.block 1 (
.seq (
.region [Q 10 (.iaddr 3 none (.t 6) (.t 8)),
Q 11 (.load true 3 (.t 10)),
M 5 (.alloc 98 3 zl6),
S 3 5 11]) (
.seq (
.region [Q 12 (.faddr 0 (.t 2)),
Q 13 (.load true 2 (.t 12)),
Q 14 (.faddr 0 (.t 5)),
Q 15 (.load true 2 (.t 14)),
Q 16 (.bin .eql (.agg [.int, .int]) (.t 13) (.t 15)),
V 17 16,
G 18 (.faddr 2 (.t 2)) 17 true,
G 19 (.load false 1 (.t 18)) 17 true,
G 20 (.faddr 2 (.t 5)) 17 true,
G 21 (.load false 1 (.t 20)) 17 true,
⟨some 22, .e (.callf 146 [(.t 19), (.t 21)]), some (17, true), 0⟩,
Q 23 (.pick (.t 17) (.t 22) (cb false))]) (
.cond (.t 23) (
.seq (
.region [Q 3 (.mov (cb true))]) (
.ret)) (
.skip))))) (
.region [Q 24 (.bin .add .scalar (.t 8) (ci 1)),
V 8 24]))))))) (
.seq (
.region [Q 3 (.mov (cb false))]) (
.ret)))
def a224 : AFunc := ⟨c224, [.tmp 3], true⟩
def c225 : ACode :=
.seq (
.region [Q 2 (.mov (.c (.one (dc (.int .u64 0)))))]) (
.seq (
.block 0 (
.seq (
.region [V 4 0,
E 5 (.callf 285 [(.t 4)]),
V 3 5]) (
.cond (.t 3) (
.seq (
.region [Q 2 (.mov (.c (.one (dc (.int .u64 9221120237041090560)))))]) (
.ret)) (
.seq (
.region [V 7 0,
Q 8 (.bin .eql .scalar (.t 7) (.c (.one (dc (.flt .f64 0))))),
V 6 8]) (
.cond (.t 6) (
.seq (
.region [Q 2 (.mov (.c (.one (dc (.int .u64 0)))))]) (
.ret)) (
.skip)))))) (
.seq (
.region [V 9 0,
Q 10 (.fbits (.t 9)),
V 2 10]) (
.ret)))
def a225 : AFunc := ⟨c225, [.tmp 2], true⟩
def c227 : ACode :=
.seq (
.region [Q 2 (.mov (cs []))]) (
.seq (
.region [V 3 0,
Q 4 (.conv (.int .u64) (.t 3)),
Q 5 (.bin .shl .scalar (.t 4) (.c (.one (dc (.int .u64 1))))),
V 6 0,
Q 7 (.bin .shr .scalar (.t 6) (.c (.one (dc (.int .u64 63))))),
Q 8 (.conv (.int .u64) (.t 7)),
Q 9 (.bin .xor .scalar (.t 5) (.t 8)),
E 10 (.callf 110 [(.t 9)]),
V 2 10]) (
.ret))
def a227 : AFunc := ⟨c227, [.tmp 2], true⟩
def c228 : ACode :=
.seq (
.region [M 2 (.box 186 1 (.t 0)),
M 4 (.alloc 126 1 [dc (.int .u64 0)])]) (
.seq (
.seq (
.region [Q 6 (.load false 1 (.t 2)),
Q 7 (.bin .eql .ptr (.t 6) (.c (.one (dc (.nilp))))),
V 8 7,
G 9 (.load false 1 (.t 2)) 8 false,
G 10 (.nilck (.t 9)) 8 false,
G 11 (.faddr 2 (.t 10)) 8 false,
G 12 (.load false 1 (.t 11)) 8 false,
G 13 (.bin .neq .scalar (.t 12) (ci 0)) 8 false,
Q 14 (.pick (.t 8) (cb true) (.t 13))]) (
.cond (.t 14) (
.seq (
.region [Q 15 (.load false 1 (.t 4)),
S 1 4 15]) (
.ret)) (
.skip))) (
.seq (
.region [Q 16 (.load false 1 (.t 2)),
Q 17 (.nilck (.t 16)),
Q 18 (.faddr 1 (.t 17)),
Q 19 (.load false 1 (.t 18)),
M 5 (.alloc 3 1 [dc (.int .i64 0)]),
S 1 5 19]) (
.seq (
.region [Q 20 (.mkfn (.func 287) 287 [] [(.t 5), (.t 4), (.t 2)]),
⟨none, .defer (.t 20) [], none, 0⟩]) (
.seq (
.region [V 21 1,
E 22 (.callv (.t 21) []),
S 1 4 22]) (
.ret)))))
def a228 : AFunc := ⟨c228, [.cell 4 false 1], false⟩
def c229 : ACode :=
.seq (
.region [Q 2 (.mov (.c (.one (dc (.int .u64 0)))))]) (
.seq (
.region [Q 3 (.mov (.c (.one (dc (.int .u64 0)))))]) (
.seq (
.seq (
.region [Q 6 (.mov (ci 0))]) (
.block 0 (
.loop (
.seq (
.region [Q 7 (.bin .lss .scalar (.t 6) (ci 10))]) (
.seq (
.cond (.t 7) (
.skip) (
.exit 0)) (
.seq (
.block 1 (
.seq (
.region [V 8 6,
V 4 8]) (
.seq (
.region [V 9 0,
E 10 (.callf 288 [(.t 9)]),
V 5 10]) (
.seq (
.seq (
.region [V 11 5,
Q 12 (.bin .eql .scalar (.t 11) (.c (.one (dc (.int .u8 0))))),
V 13 12,
G 14 (.mov (.t 4)) 13 true,
G 15 (.bin .gtr .scalar (.t 14) (ci 0)) 13 true,
Q 16 (.pick (.t 13) (.t 15) (cb false)),
V 17 16,
G 18 (.mov (.t 4)) 17 false,
G 19 (.bin .eql .scalar (.t 18) (ci 9)) 17 false,
G 20 (.mov (.t 19)) 17 false,
G 21 (.mov (.t 5)) 20 true,
G 22 (.bin .gtr .scalar (.t 21) (.c (.one (dc (.int .u8 1))))) 20 true,
G 23 (.pick (.t 20) (.t 22) (cb false)) 17 false,
Q 24 (.pick (.t 17) (cb true) (.t 23))]) (
.cond (.t 24) (
.region [Q 25 (.build [dc (.int .i64 0)] [(0, 1, (ci 7))]),
Q 26 (.mkif 317 (.t 25)),
⟨none, .e (.panic (.t 26)), none, 0⟩]) (
.skip))) (
.seq (
.region [V 27 3,
V 28 5,
Q 29 (.bin .rem .scalar (.t 28) (.c (.one (dc (.int .u8 128))))),
Q 30 (.conv (.int .u64) (.t 29)),
V 31 4,
Q 32 (.bin .mul .scalar (ci 7) (.t 31)),
Q 33 (.bin .shl .scalar (.t 30) (.t 32)),
Q 34 (.bin .or .scalar (.t 27) (.t 33)),
V 3 34]) (
.seq (
.region [V 35 5,
Q 36 (.bin .lss .scalar (.t 35) (.c (.one (dc (.int .u8 128)))))]) (
.cond (.t 36) (
.exit 0) (
.skip)))))))) (
.region [Q 37 (.bin .add .scalar (.t 6) (ci 1)),
V 6 37]))))))) (
.seq (
.region [V 38 3,
V 2 38]) (
.ret))))
def a229 : AFunc := ⟨c229, [.tmp 2], false⟩
end Go.Proofs.YtcdebohjjkffkaaGreat.tr
