/- A closed run, printed by program: piece by piece. -/
import Derived.Test.YtcdebohjjkffkaaGreatRn1
namespace Go.Proofs.YtcdebohjjkffkaaGreat.tr
open Go Go.Rf
set_option maxRecDepth 1000000
def m488 : PM AVal := (nd (vc e449) (nn (lf (vi 0)) (lf (.tup [u464, (.one (xi 0))]))) (nd (vi 0) (lf (.tup [u464, (.one (xi 0))])) (lf (vi 0))))
def f489 : Fr := ⟨(nd (vp 809 0 0) (nd (vp 894 0 0) (nn (lf (vp 10359 0 0)) (lf (vc e449))) (nn .nil (lf (.v u464)))) m488), [], none⟩
def m490 : PM AObj := (nn (nn (nn .nil (nn (lf x31) .nil)) (nn (nn (nn (nn (nn .nil (nn (lf x269) .nil)) .nil) .nil) .nil) .nil)) (nn (nn .nil (nn (lf x24) .nil)) (nn (nn (nn (nn (nn .nil (nn (lf x274) .nil)) .nil) .nil) .nil) .nil)))
def m491 : PM AObj := (nd x16 (nd x17 (nn (nn (nn (nn (nn (nn (nd x18 (lf x23) .nil) (nn .nil (lf x30))) .nil) .nil) m420) (nn m467 m490)) m470) m473) (nd x53 m476 (nn (nn (nn m477 m478) (nn m428 .nil)) (nn (nn m479 m480) (nn m430 m483)))))
def s492 : St := ⟨m491, 10360, 0⟩
theorem o493 : PX (evO badP allP Ot A 1000000 193) r487 f466 s485 f489 s492 := fun r K => by kernel_rfl
def r494 : List AOper := r487 ++ []
theorem o495 : PO (evO badP allP Ot A 1000000 193) r494 f466 s485 .normal f489 s492 := PO.app o493 PO.nil
def r496 : List AOper := r463 ++ r494
theorem o497 : PO (evO badP allP Ot A 1000000 193) r496 f461 s441 .normal f489 s492 := PO.app o486 o495
def r498 : List AOper := r460 ++ r496
theorem o499 : PO (evO badP allP Ot A 1000000 193) r498 f459 s441 .normal f489 s492 := PO.app o462 o497
def k500 : ACode := .region r498
theorem t501 : PC (evO badP allP Ot A 1000000 193) 1000000 k500 f459 s441 .normal f489 s492 := PC.region o499
def k502 : ACode := .region [V 15 8,
Q 16 (.bin .eql .scalar (.t 15) (ci 0))]
def m504 : PM AVal := (nd (vc e449) (nn (nd (vi 0) (lf (vb true)) .nil) (lf (.tup [u464, (.one (xi 0))]))) (nd (vi 0) (lf (.tup [u464, (.one (xi 0))])) (lf (vi 0))))
def m505 : PM AVal := (nd (vp 809 0 0) (nd (vp 894 0 0) (nn (nd (vp 10359 0 0) (lf (vi 0)) .nil) (lf (vc e449))) (nn .nil (lf (.v u464)))) m504)
def f506 : Fr := ⟨m505, [], none⟩
theorem t503 : PC (evO badP allP Ot A 1000000 193) 1000000 k502 f489 s492 .normal f506 s492 := fun K => by kernel_rfl
def q507 : List DOp := [W 0 17 0 0,
D 1 18 (.nilck (.t 17)) 1,
D 2 19 (.faddr 1 (.t 18)) 3,
D 3 20 (.load false 1 (.t 19)) 7,
D 4 21 (.load true 2 (.t 7)) 0,
⟨5, ⟨some 22, .e (.callf 214 [(.t 21)]), none, 16⟩⟩,
⟨6, ⟨some 23, .e (.callf 251 [(.t 20), (.t 22)]), none, 63⟩⟩,
W 7 8 23 127]
def s508 : St := ⟨m491, 10368, 0⟩
def w509 : Dr := ⟨f506, s508, [], []⟩
def m510 : PM AVal := (nd (vp 894 0 0) (nn (nd (vp 10359 0 0) (lf (vi 0)) .nil) (nd (vc e449) (lf (vp 809 0 1)) .nil)) (nn (nn (lf (vp 809 0 0)) .nil) (nd (.v u464) (lf (.v u464)) .nil)))
def m511 : PM AVal := (nd (vi 0) (nd (.tup [u464, (.one (xi 0))]) (lf (vp 809 0 0)) .nil) (nd (vi 0) (lf (vs [0, 1, 2])) .nil))
def m512 : PM AVal := (nd (vc e449) (nn (nd (vi 0) (lf (vb true)) .nil) (nd (.tup [u464, (.one (xi 0))]) (lf (vp 457 0 0)) .nil)) m511)
def f513 : Fr := ⟨(nd (vp 809 0 0) m510 m512), [], none⟩
def m514 : PM AObj := (nn (nn (nn .nil (nn (nn (nn (nn .nil (nn (lf x274) .nil)) .nil) .nil) (lf x58))) .nil) (nd x54 (lf x54) (nn (nn .nil (lf x108)) .nil)))
def m515 : PM AObj := (nn (nn m514 (nn (nn .nil (nn (nn .nil (lf x87)) .nil)) (nn (nn (lf x24) .nil) .nil))) (nn m316 (nd x56 (nd x24 (nd x24 (nn (lf x34) .nil) .nil) .nil) (nn (nn .nil (nn (lf x40) .nil)) .nil))))
def m516 : PM AObj := (nd x53 (nn m515 (nn m474 (nn m475 (nn .nil (nd x38 (lf x59) (nn (nn .nil (lf x329)) .nil)))))) (nn (nn (nn m477 m478) (nn m428 .nil)) (nn (nn m479 m480) (nn m430 m483))))
def s517 : St := ⟨(nd x16 (nd x17 (nn (nn (nn (nn (nn (nn (nd x18 (lf x23) .nil) (nn .nil (lf x30))) .nil) .nil) m420) (nn m467 m490)) m470) m473) m516), 10380, 0⟩
def m518 : PM AVal := (nd (vp 894 0 0) (nn (nd (vp 10359 0 0) (lf (vi 0)) .nil) (nd (vc e449) (lf (vp 809 0 1)) .nil)) (nn (nn (lf (vp 809 0 0)) .nil) (lf (.v u464))))
def m519 : PM AVal := (nd (vc e449) (nn (nd (vi 0) (lf (vb true)) .nil) (nd (.tup [u464, (.one (xi 0))]) (lf (vp 457 0 0)) .nil)) (nd (vi 0) (nd (.tup [u464, (.one (xi 0))]) (lf (vp 809 0 0)) .nil) (lf (vi 0))))
def p520 : PM AVal := (nd (vp 809 0 0) m518 m519)
def m521 : PM AVal := (nd (vc e449) (nn (nd (vi 0) (lf (vb true)) .nil) (lf (.tup [u464, (.one (xi 0))]))) (nd (vi 0) (nd (.tup [u464, (.one (xi 0))]) (lf (vp 809 0 0)) .nil) (lf (vi 0))))
def p522 : PM AVal := (nd (vp 809 0 0) m518 m521)
def w523 : Dr := ⟨f513, s517, [], [⟨4, 0, p520, .load true 2 (.t 7), (.v u464)⟩, ⟨3, 7, p522, .load false 1 (.t 19), (vp 457 0 0)⟩]⟩
def q524 : List DOp := [W 0 17 0 0,
D 1 18 (.nilck (.t 17)) 1,
D 2 19 (.faddr 1 (.t 18)) 3,
D 3 20 (.load false 1 (.t 19)) 7,
D 4 21 (.load true 2 (.t 7)) 0,
⟨5, ⟨some 22, .e (.callf 214 [(.t 21)]), none, 16⟩⟩]
theorem d525 : PD (evO badP allP Ot A 1000000 193) 10360 q507 q524 w509 w523 := fun r K => by kernel_rfl
def m526 : PM AVal := (nd (vp 894 0 0) (nn (nd (vp 10359 0 0) (lf (vi 0)) (lf (vi 0))) (nd (vc e449) (lf (vp 809 0 1)) .nil)) (nn (nn (lf (vp 809 0 0)) .nil) (nd (.v u464) (lf (.v u464)) .nil)))
def f527 : Fr := ⟨(nd (vp 809 0 0) m526 m512), [], none⟩
def m528 : PM AObj := (nn (nn (nn (nn .nil (lf x24)) (nd x25 .nil (lf x260))) (nn (nn .nil (lf x83)) .nil)) (nn (nn .nil (nn .nil (lf x30))) (nd x26 (nn .nil (nn (nn (nn (nn (nn (lf x24) .nil) .nil) .nil) .nil) .nil)) (nn (lf x27) .nil))))
def m529 : PM AObj := (nn (nn (nn (nn (nd x18 (lf x23) .nil) (nn .nil (lf x30))) (nn (nn .nil (nn (nn (nn (nn (nn (lf x24) .nil) .nil) .nil) .nil) .nil)) .nil)) .nil) m528)
def m530 : PM AObj := (nn (nd x35 (nn (nn .nil (nn .nil (lf x281))) (nn (nn .nil (lf x30)) (nn .nil (lf x282)))) (nn .nil (nn (nn .nil (lf x30)) .nil))) (nn (nn (nn .nil (nn .nil (lf x284))) (nn (nn (lf x24) (nn (nn (nn (nn (nn (lf x285) .nil) .nil) .nil) .nil) .nil)) .nil)) .nil))
def m531 : PM AObj := (nn (nn (nn (nn .nil (nn (nn (nn (nn (nn .nil (nn (lf x276) .nil)) .nil) .nil) .nil) .nil)) (nd x33 (lf x33) (nn (nn .nil (lf x220)) .nil))) m469) m530)
def m532 : PM AObj := (nn (nn (nn .nil (nn (lf x40) .nil)) (nn (nn (lf x24) (lf x85)) (lf x34))) (nn (nn .nil (nn (nn (nn (nn (nn (nn (lf x291) .nil) .nil) .nil) .nil) .nil) (lf x292))) .nil))
def m533 : PM AObj := (nn (nn (nd x37 m290 m532) (nn m471 (nn (nn (nn (nn (lf x34) .nil) .nil) .nil) (nn (nn (nn (lf x46) .nil) (nn (lf x40) .nil)) .nil)))) (nn (nn m302 (nn (nn .nil (nn (nn (lf x49) .nil) .nil)) (nn .nil (nn (nn (nn (nn (nn .nil (nn (lf x276) .nil)) .nil) .nil) .nil) .nil)))) m472))
def m534 : PM AObj := (nn (nn .nil (nn (nn (nn (nn .nil (nn (lf x274) .nil)) .nil) .nil) (lf x58))) (nn (nn .nil (nn (nn (nn (nn (nn (lf x305) .nil) .nil) .nil) .nil) .nil)) .nil))
def m535 : PM AObj := (nn (nn m534 (nd x54 (lf x54) (nn (nn .nil (lf x108)) .nil))) (nn (nn .nil (nn (nn .nil (lf x87)) .nil)) (nn (nn (lf x24) (nn (nn (nn (nn (nn (nn (lf x313) .nil) .nil) .nil) .nil) .nil) .nil)) .nil)))
def m536 : PM AObj := (nn (nn .nil (nn .nil (nn (nn (nn (nn (nn (lf x45) .nil) .nil) .nil) .nil) .nil))) (nd x27 (nn (lf x34) (nn (nn (nn (nn (nn (lf x27) .nil) .nil) .nil) .nil) .nil)) .nil))
def m537 : PM AObj := (nn (nn (nn .nil (nn (nn (nn (nn (nn .nil (nn (lf x318) .nil)) .nil) .nil) .nil) .nil)) (nn (nn (nn .nil (lf x33)) .nil) .nil)) (nn m536 (nn .nil (nd x24 (nn (nn (nn (nn .nil (nn (lf x274) .nil)) .nil) .nil) (lf x220)) .nil))))
def m538 : PM AObj := (nn (nn m535 (nn m316 (nd x56 (nd x24 (nd x24 (nn (lf x34) .nil) .nil) .nil) (nn (nn .nil (nn (lf x40) .nil)) .nil)))) (nn m537 (nn m475 (nn .nil (nd x38 (lf x59) (nn (nn .nil (lf x329)) .nil))))))
def m539 : PM AObj := (nn (nn (nd x24 m332 (nd x29 (nd x29 .nil (nn .nil (lf x333))) (nn (nn .nil (lf x171)) .nil))) (nn (nn .nil (nn (nn (lf x49) .nil) .nil)) m336)) (nn m428 (nn m341 .nil)))
def m540 : PM AObj := (nn (nn (nn .nil (nd x24 .nil (lf x108))) (nn (nn .nil (lf x66)) (nn (lf x24) .nil))) (nd x56 (nd x56 .nil (nn .nil (nd x333 (nn (nn (nn (nn (lf x24) .nil) .nil) .nil) .nil) .nil))) (lf x26)))
def x541 : AObj := (.map (.int .i64) [⟨[(.int .i64 (.ofNat 0))], 2, (.one (.s (.d h254)))⟩, ⟨[(.int .i64 (.ofNat 2))], 3, (.one (.s (.d h256)))⟩, ⟨[(.int .i64 (.ofNat 3))], 4, (.one (.s (.d h257)))⟩, ⟨[(.int .i64 (.ofNat 1))], 5, (.one (.s (.d h255)))⟩] 6)
def m542 : PM AObj := (nn (nn .nil (nn (nn (nn (nn (nn .nil (nn (lf x351) .nil)) .nil) .nil) .nil) .nil)) (nn (nn .nil (nn (lf x24) .nil)) (nd x541 (nn .nil (lf x354)) .nil)))
def s543 : St := ⟨(nd x16 (nd x17 (nn (nn m529 (nn m467 m490)) m531) m533) (nd x53 m538 (nn m539 (nn (nn m346 m480) (nn m540 m542))))), 16815, 0⟩
def w544 : Dr := ⟨f527, s543, [], [⟨4, 0, p520, .load true 2 (.t 7), (.v u464)⟩, ⟨3, 7, p522, .load false 1 (.t 19), (vp 457 0 0)⟩]⟩
def q545 : List DOp := [⟨6, ⟨some 23, .e (.callf 251 [(.t 20), (.t 22)]), none, 63⟩⟩]
def k546 : ACode := .region [Q 4 (.mov (ci 0))]
def f548 : Fr := ⟨(nd (vp 457 0 0) (lf (vs [0, 1, 2])) .nil), [], none⟩
def f549 : Fr := ⟨(nd (vp 457 0 0) (lf (vs [0, 1, 2])) (nn (lf (vi 0)) .nil)), [], none⟩
theorem t547 : PC (evO badP allP Ot A 1000000 192) 1000000 k546 f548 s517 .normal f549 s517 := fun K => by kernel_rfl
def r550 : List AOper := [V 8 0, V 9 1]
def m551 : PM AVal := (nd (vp 457 0 0) (nd (vs [0, 1, 2]) .nil (nn (lf (vs [0, 1, 2])) .nil)) (nn (nd (vi 0) (lf (vp 457 0 0)) .nil) .nil))
def f552 : Fr := ⟨m551, [], none⟩
theorem o553 : PX (evO badP allP Ot A 1000000 192) r550 f549 s517 f552 s517 := fun r K => by kernel_rfl
def r554 : List AOper := [E 10 (.callf 191 [(.t 8), (.t 9)])]
def k555 : ACode := .region [Q 4 (.mov (ci 0)),
Q 5 (.mov (ci 0))]
def f557 : Fr := ⟨(nd (vp 457 0 0) (nd (vs [0, 1, 2]) .nil (lf (vi 0))) (nn (lf (vi 0)) .nil)), [], none⟩
theorem t556 : PC (evO badP allP Ot A 1000000 191) 1000000 k555 f548 s517 .normal f557 s517 := fun K => by kernel_rfl
def k558 : ACode := .seq (
.region [V 13 0,
E 14 (.callf 210 [(.t 13)]),
Q 15 (.un .not (.t 14)),
V 12 15]) (
.cond (.t 12) (
.seq (
.region [Q 4 (.mov (ci 0)),
Q 5 (.mov (ci 13))]) (
.ret)) (
.seq (
.region [V 17 1,
Q 18 (.len .str (.t 17)),
Q 19 (.bin .gtr .scalar (.t 18) (ci 100000)),
V 16 19]) (
.cond (.t 16) (
.seq (
.region [Q 4 (.mov (ci 0)),
Q 5 (.mov (ci 19))]) (
.ret)) (
.seq (
.region [V 21 0,
Q 22 (.nilck (.t 21)),
Q 23 (.faddr 0 (.t 22)),
Q 24 (.load false 1 (.t 23)),
E 25 (.callf 254 [(.t 24)]),
V 26 0,
V 27 1,
Q 28 (.len .str (.t 27)),
E 29 (.callf 255 [(.t 26), (.t 28)]),
Q 30 (.bin .lss .scalar (.t 25) (.t 29)),
V 20 30]) (
.cond (.t 20) (
.seq (
.region [Q 4 (.mov (ci 0)),
Q 5 (.mov (ci 3))]) (
.ret)) (
.skip))))))
def m560 : PM AVal := (nd (vi 0) (nn (lf (vs [0, 1, 2])) (lf (vi 197))) (nd (vp 457 0 0) (lf (vp 457 0 0)) (lf (vi 1))))
def m561 : PM AVal := (nd (vs [0, 1, 2]) (nn (nn (lf (vb false)) (lf (vp 457 0 0))) (nn (lf (vb false)) (lf (vs [0, 1, 2])))) m560)
def m562 : PM AVal := (nd (vi 0) (nn (lf (vb false)) (lf (vp 255 0 0))) (nd (vb false) (lf (vb false)) (lf (vi 3))))
def m563 : PM AVal := (nn (nn (lf (vi 3)) (lf (vp 457 0 0))) (nd (vb true) (lf (vp 457 0 0)) (lf (vb false))))
def f564 : Fr := ⟨(nd (vp 457 0 0) m561 (nn m562 m563)), [], none⟩
def s565 : St := ⟨(nd x16 (nd x17 (nn (nn (nn (nn (nn (nn (nd x18 (lf x23) .nil) (nn .nil (lf x30))) .nil) .nil) m420) (nn m467 m490)) m470) m473) m516), 16560, 0⟩
theorem t559 : PC (evO badP allP Ot A 1000000 191) 1000000 k558 f557 s517 .normal f564 s565 := fun K => by kernel_rfl
def k566 : ACode := .block 0 k558
theorem t567 : PC (evO badP allP Ot A 1000000 191) 1000000 k566 f557 s517 .normal f564 s565 := PC.block t559 rfl
def k568 : ACode := .seq (
.region [V 31 0,
V 32 1,
E 33 (.callf 256 [(.t 31), (.t 32)]),
V 6 33]) (
.seq (
.region [Q 7 (.mov (.c (.one (dc (.sl [] true)))))]) (
.seq (
.seq (
.region [V 34 6,
Q 35 (.len .sl (.t 34)),
Q 36 (.mov (ci 0))]) (
.block 1 (
.loop (
.seq (
.region [Q 37 (.bin .lss .scalar (.t 36) (.t 35))]) (
.seq (
.cond (.t 37) (
.skip) (
.exit 1)) (
.seq (
.block 2 (
.seq (
.region [V 39 0,
Q 40 (.nilck (.t 39)),
Q 41 (.faddr 0 (.t 40)),
Q 42 (.load false 1 (.t 41)),
E 43 (.callf 197 [(.t 42)]),
V 38 43,
Q 44 (.extract 0 (.t 38)),
Q 45 (.extract 1 (.t 38)),
V 8 44,
V 9 45]) (
.region [V 46 7,
V 47 8,
M 48 (.bslice 3 1 1 [dc (.int .i64 0)] [(0, 1, (.t 47))]),
E 49 (.append 3 1 8 (.t 46) (.t 48)),
V 7 49]))) (
.region [Q 50 (.bin .add .scalar (.t 36) (ci 1)),
V 36 50]))))))) (
.seq (
.region [V 51 7,
M 52 (.bslice 3 1 1 [dc (.int .i64 0)] [(0, 1, (ci 0))]),
E 53 (.append 3 1 8 (.t 51) (.t 52)),
V 7 53]) (
.seq (
.seq (
.region [V 54 6,
Q 55 (.len .sl (.t 54)),
Q 56 (.mov (ci 0))]) (
.block 3 (
.loop (
.seq (
.region [Q 57 (.bin .lss .scalar (.t 56) (.t 55))]) (
.seq (
.cond (.t 57) (
.skip) (
.exit 3)) (
.seq (
.block 4 (
.seq (
.region [V 58 56,
Q 59 (.iaddr 1 none (.t 54) (.t 56)),
Q 60 (.load false 1 (.t 59)),
V 10 58,
V 11 60]) (
.draw [W 0 61 0 0,
D 1 62 (.nilck (.t 61)) 1,
D 2 63 (.faddr 0 (.t 62)) 3,
D 3 64 (.load false 1 (.t 63)) 7,
W 4 65 7 0,
W 5 66 10 0,
D 6 67 (.iaddr 1 none (.t 65) (.t 66)) 48,
D 7 68 (.load false 1 (.t 67)) 112,
W 8 69 7 0,
W 9 70 10 0,
D 10 71 (.bin .add .scalar (.t 70) (ci 1)) 512,
D 11 72 (.iaddr 1 none (.t 69) (.t 71)) 1792,
D 12 73 (.load false 1 (.t 72)) 3840,
W 14 75 11 0,
D 15 76 (.len .sl (.t 75)) 16384,
D 16 77 (.conv (.int .u8) (.t 76)) 49152,
⟨17, ⟨some 78, .m (.bslice 5 1 1 [dc (.int .u8 0)] [(0, 1, (.t 77))]), none, 114688⟩⟩,
W 18 79 11 0,
⟨13, ⟨some 74, .e (.callf 257 [(.t 73)]), none, 7936⟩⟩,
⟨19, ⟨some 80, .e (.append 5 1 1 (.t 78) (.t 79)), none, 524032⟩⟩,
D 20 81 (.conv .b2s (.t 80)) 1048320,
D 21 82 (.bin .add .scalar (.t 74) (.t 81)) 2096896,
⟨22, ⟨some 83, .e (.callf 198 [(.t 64), (.t 68), (.t 82)]), none, 4194303⟩⟩]))) (
.region [Q 84 (.bin .add .scalar (.t 56) (ci 1)),
V 56 84]))))))) (
.seq (
.region [V 85 7,
Q 86 (.iaddr 1 none (.t 85) (ci 0)),
Q 87 (.load false 1 (.t 86)),
V 4 87,
Q 5 (.mov (ci 0))]) (
.ret))))))
def m570 : PM AVal := (nd (vp 457 0 0) (nd (vp 457 0 0) (lf (vi 1)) .nil) (nd (vi 1) (lf (vi 3)) .nil))
def m571 : PM AVal := (nd (.v (.one (.s (.sl 16705 1 0 2 false)))) (nd (vb false) (nd (vp 457 0 0) (lf (vp 457 0 0)) .nil) (nd (vi 3) (lf (.v (.one (.s (.d h334))))) .nil)) m570)
def m572 : PM AVal := (nd (vb false) (nd (vi 1) (lf (vp 16705 1 0)) .nil) (nd (.v (.one (.s (.sl 16705 0 0 1 false)))) (lf (vi 0)) .nil))
def y573 : AVal := (.tup [(.one (xi 3)), (.one (xi 0))])
def m574 : PM AVal := (nd (vs [0, 1, 2]) (nd (.v (.one (.s (.sl 16562 0 0 1 false)))) (lf (.v (.one (.s (.sl 16705 1 0 2 false))))) .nil) (nd (.v (.one (.s (.sl 16705 0 0 1 false)))) (lf (vs [3, 0, 1, 2])) .nil))
def m575 : PM AVal := (nd (vi 0) m574 (nd (vi 197) (nd (vp 457 0 0) (lf (vi 0)) .nil) (lf (vb false))))
def m576 : PM AVal := (nd (vp 457 0 0) (nd (vp 457 0 0) (nd (vb false) (lf (.v (.one (.s (.sl 16705 1 0 2 false))))) .nil) (nd (.v (.one (.s (.sl 16705 1 0 2 false)))) (lf (.v (.one (.s (.sl 16705 1 0 2 false))))) .nil)) (nd (vi 1) (nd (vi 0) (lf (.v (.one (.s (.d (.int .u8 (.ofNat 3))))))) .nil) (lf (vp 457 0 0))))
def m577 : PM AVal := (nd (vs [0, 1, 2]) (nn m571 (nd (.v (.one (.s (.d h334)))) m572 (nd (vs [0, 1, 2]) (nd y573 (lf (.v (.one (.s (.d h334))))) .nil) (lf (vp 16562 0 0))))) (nd (vi 0) m575 m576))
def m578 : PM AVal := (nd (vi 3) (nd (vb false) (nd (vs [0, 1, 2]) (lf (vp 255 0 0)) .nil) (nd (.v (.one (.s (.sl 16704 0 0 1 true)))) (lf (.v (.one (.s (.sl 16731 0 0 4 false))))) .nil)) (nd (vp 255 0 0) (nd (vp 457 0 0) (lf (vp 16705 1 1)) .nil) (lf (vi 1))))
def m579 : PM AVal := (nd (vb false) (nd (vi 1) (lf (vi 3)) .nil) (nd (.v (.one (.s (.sl 16706 0 0 1 true)))) (lf (vi 1)) .nil))
def m580 : PM AVal := (nd (vb false) m579 (nd (vi 3) (nd (vi 3) (lf (vi 3)) .nil) (lf (.v (.one (.s (.d h334)))))))
def m581 : PM AVal := (nd (vi 3) (nd (.v (.one (.s (.sl 16562 0 0 1 false)))) (lf (vi 0)) .nil) (nd (vi 1) (lf (vs [0, 0, 3, 0, 1, 2])) .nil))
def m582 : PM AVal := (nd (vb true) (nd (vp 457 0 0) (nd y573 (lf (vi 0)) .nil) (nd (.v (.one (.s (.sl 16562 0 0 1 false)))) (lf (vp 16705 1 0)) .nil)) (nd (vb false) (nd (.v (.one (.s (.d (.sl [] true))))) (lf (.v (.one (.s (.sl 16724 0 0 1 true))))) .nil) (lf (vp 457 0 0))))
def m583 : PM AVal := (nd (.v (.one (.s (.sl 16562 0 0 1 false)))) (nd (vi 0) m581 (nd (vp 457 0 0) (nd (vp 255 0 0) (lf (vs [0, 0])) .nil) (lf (vi 0)))) m582)
def f584 : Fr := ⟨(nd (vp 457 0 0) m577 (nn (nd (vi 3) m578 m580) m583)), [], none⟩
def m585 : PM AObj := (nn (nn .nil (nd x27 (nn (lf x34) (nn (nn (nn (nn (nn (lf x27) .nil) .nil) .nil) .nil) .nil)) .nil)) (nn .nil (nd x24 (nn (nn (nn (nn .nil (nn (lf x274) .nil)) .nil) .nil) (lf x220)) .nil)))
def m586 : PM AObj := (nn (nn (nn (nn .nil (nn (nn (nn (nn (nn .nil (nn (lf x318) .nil)) .nil) .nil) .nil) .nil)) (nn (nn (nn .nil (lf x33)) .nil) .nil)) m585) (nn m475 (nn .nil (nd x38 (lf x59) (nn (nn .nil (lf x329)) .nil)))))
def m587 : PM AObj := (nn (nn (nd x24 m332 (nd x29 (nd x29 .nil (nn .nil (lf x333))) (nn (nn .nil (lf x171)) .nil))) (nn (nn .nil (nn (nn (lf x49) .nil) .nil)) m336)) (nn m428 (nn (nn .nil (nn (nn .nil (nn (nn (nn (nn (nn (lf x307) .nil) .nil) .nil) .nil) .nil)) .nil)) .nil)))
def x588 : AObj := (.map (.int .i64) [⟨[(.int .i64 (.ofNat 0))], 2, (.one (.s (.d h254)))⟩, ⟨[(.int .i64 (.ofNat 2))], 3, (.one (.s (.d h256)))⟩, ⟨[(.int .i64 (.ofNat 3))], 4, (.one (.s (.d h257)))⟩] 5)
def m589 : PM AObj := (nn (nn .nil (nn (nn (nn (nn (nn .nil (nn (lf x351) .nil)) .nil) .nil) .nil) .nil)) (nn (nn .nil (nn (lf x24) .nil)) (nd x588 (nn .nil (lf x354)) .nil)))
def m590 : PM AObj := (nd x53 (nn (nn m535 (nn m316 (nd x56 (nd x24 (nd x24 (nn (lf x34) .nil) .nil) .nil) (nn (nn .nil (nn (lf x40) .nil)) .nil)))) m586) (nn m587 (nn (nn m346 m480) (nn m430 m589))))
def s591 : St := ⟨(nd x16 (nd x17 (nn (nn m529 (nn m467 m490)) m531) m533) m590), 16752, 0⟩
theorem t569 : PC (evO badP allP Ot A 1000000 191) 1000000 k568 f564 s565 .ret f584 s591 := fun K => by kernel_rfl
def k592 : ACode := .seq k566 k568
theorem t593 : PC (evO badP allP Ot A 1000000 191) 1000000 k592 f557 s517 .ret f584 s591 := PC.seq t567 t569
def k594 : ACode := .seq k555 k592
theorem t595 : PC (evO badP allP Ot A 1000000 191) 1000000 k594 f548 s517 .ret f584 s591 := PC.seq t556 t593
def g596 : List Vl := [(.one (.s (.ptr 457 0 0))), (.one (xs [0, 1, 2]))]
theorem cc597k : a191.code = k594 := by kernel_rfl
theorem cc597 : PKO Ot A 1000000 192 191 g596 s517 y573 s591 := PKO.mk (af := a191) (K := k594) (f := f548) (s0 := s517) (by kernel_rfl) (by kernel_rfl) cc597k (by kernel_rfl) (by kernel_rfl) t595 (fun K PN => by kernel_rfl)
def m598 : PM AVal := (nd (vp 457 0 0) (nd (vs [0, 1, 2]) .nil (nn (lf (vs [0, 1, 2])) .nil)) (nn (nd (vi 0) (lf (vp 457 0 0)) .nil) (nn (lf y573) .nil)))
def f599 : Fr := ⟨m598, [], none⟩
theorem o600 : PX (evO badP allP Ot A 1000000 192) [⟨some 10, .e (.callf 191 [(.t 8), (.t 9)]), none, 0⟩] f552 s517 f599 s591 := PX.callO (by kernel_rfl) (by kernel_rfl) cc597 (by kernel_rfl)
def r601 : List AOper := [V 7 10, Q 11 (.extract 0 (.t 7)), Q 12 (.extract 1 (.t 7)), V 5 11, V 6 12]
def m602 : PM AVal := (nd (vp 457 0 0) (nd (vs [0, 1, 2]) (nn (lf y573) (lf (vi 3))) (nd (vi 3) (lf (vs [0, 1, 2])) .nil)) (nn (nd (vi 0) (lf (vp 457 0 0)) (lf (vi 0))) (nd (vi 0) (lf y573) .nil)))
def f603 : Fr := ⟨m602, [], none⟩
theorem o604 : PX (evO badP allP Ot A 1000000 192) r601 f599 s591 f603 s591 := fun r K => by kernel_rfl
def r605 : List AOper := r601 ++ []
theorem o606 : PO (evO badP allP Ot A 1000000 192) r605 f599 s591 .normal f603 s591 := PO.app o604 PO.nil
def r607 : List AOper := r554 ++ r605
theorem o608 : PO (evO badP allP Ot A 1000000 192) r607 f552 s517 .normal f603 s591 := PO.app o600 o606
def r609 : List AOper := r550 ++ r607
theorem o610 : PO (evO badP allP Ot A 1000000 192) r609 f549 s517 .normal f603 s591 := PO.app o553 o608
def k611 : ACode := .region r609
theorem t612 : PC (evO badP allP Ot A 1000000 192) 1000000 k611 f549 s517 .normal f603 s591 := PC.region o610
def k613 : ACode := .seq (
.seq (
.region [V 13 6,
Q 14 (.bin .neq .scalar (.t 13) (ci 0))]) (
.cond (.t 14) (
.seq (
.region [V 15 6,
V 4 15]) (
.ret)) (
.skip))) (
.seq (
.region [V 16 0,
V 17 0,
E 18 (.callf 211 [(.t 17)]),
E 19 (.callf 190 [(.t 16), (.t 18)])]) (
.seq (
.draw [W 0 20 0 0,
D 1 21 (.nilck (.t 20)) 1,
D 2 22 (.faddr 0 (.t 21)) 3,
D 3 23 (.load false 1 (.t 22)) 7,
⟨4, ⟨some 24, .m (.bslice 5 1 1 [dc (.int .u8 0)] [(0, 1, (.c (.one (dc (.int .u8 82)))))]), none, 0⟩⟩,
D 5 25 (.conv .b2s (.t 24)) 16,
W 6 26 5 0,
⟨7, ⟨some 27, .e (.callf 257 [(.t 26)]), none, 64⟩⟩,
D 8 28 (.bin .add .scalar (.t 25) (.t 27)) 240,
⟨9, ⟨some 29, .e (.callf 198 [(.t 23), (ci 1), (.t 28)]), none, 511⟩⟩]) (
.seq (
.region [Q 4 (.mov (ci 0))]) (
.ret))))
def m615 : PM AVal := (nd (vi 3) (nd (vs [0, 1, 2]) (lf (vp 457 0 0)) (lf (vs [82]))) (nd (vi 0) (lf (vp 457 0 0)) (lf (vi 0))))
def m616 : PM AVal := (nd (vs [0, 1, 2]) (nn (nd y573 .nil (lf (vp 255 0 0))) (nd (vi 3) (lf (vi 4)) (lf (vs [0, 3])))) m615)
def m617 : PM AVal := (nd (vi 0) (nd (vp 457 0 0) (lf (vp 457 0 0)) (lf (.v (.one (.s (.sl 16788 0 0 1 true)))))) (nd (vi 0) (lf (vp 457 0 0)) (lf (vs [82, 0, 3]))))
def m618 : PM AVal := (nd (vi 0) (nd y573 (lf (vi 0)) (lf (vi 3))) (nd (vb false) (lf (vp 457 0 0)) .nil))
def f619 : Fr := ⟨(nd (vp 457 0 0) m616 (nn m617 m618)), [], none⟩
theorem t614 : PC (evO badP allP Ot A 1000000 192) 1000000 k613 f603 s591 .ret f619 s543 := fun K => by kernel_rfl
def k620 : ACode := .seq k611 k613
theorem t621 : PC (evO badP allP Ot A 1000000 192) 1000000 k620 f549 s517 .ret f619 s543 := PC.seq t612 t614
def k622 : ACode := .seq k546 k620
theorem t623 : PC (evO badP allP Ot A 1000000 192) 1000000 k622 f548 s517 .ret f619 s543 := PC.seq t547 t621
theorem cc624k : a251.code = k622 := by kernel_rfl
theorem cc624 : PKO Ot A 1000000 193 251 g596 s517 (vi 0) s543 := PKO.mk (af := a251) (K := k622) (f := f548) (s0 := s517) (by kernel_rfl) (by kernel_rfl) cc624k (by kernel_rfl) (by kernel_rfl) t623 (fun K PN => by kernel_rfl)
theorem d625 : PD (evO badP allP Ot A 1000000 193) 10360 q507 [⟨6, ⟨some 23, .e (.callf 251 [(.t 20), (.t 22)]), none, 63⟩⟩] w523 w544 := PD.callO (by kernel_rfl) (by kernel_rfl) (by kernel_rfl) cc624 (by kernel_rfl) (by kernel_rfl)
def q626 : List DOp := [W 7 8 23 127]
theorem d627 : PD (evO badP allP Ot A 1000000 193) 10360 q507 q626 w544 w544 := fun r K => by kernel_rfl
theorem d628 : PR (evO badP allP Ot A 1000000 193) 10360 q507 [] w544 f527 s543 := fun K => by kernel_rfl
def q629 : List DOp := q626 ++ []
theorem d630 : PR (evO badP allP Ot A 1000000 193) 10360 q507 q629 w544 f527 s543 := PR.app d627 d628
def q631 : List DOp := q545 ++ q629
theorem d632 : PR (evO badP allP Ot A 1000000 193) 10360 q507 q631 w523 f527 s543 := PR.app d625 d630
def q633 : List DOp := q524 ++ q631
theorem d634 : PR (evO badP allP Ot A 1000000 193) 10360 q507 q633 w509 f527 s543 := PR.app d525 d632
def k635 : ACode := .draw q507
theorem t636 : PC (evO badP allP Ot A 1000000 193) 1000000 k635 f506 s492 .normal f527 s543 := PC.drawN (by kernel_rfl) (by kernel_rfl) (by kernel_rfl) d634
def k637 : ACode := .cond (.t 16) k635 k153
theorem t638 : PC (evO badP allP Ot A 1000000 193) 1000000 k637 f506 s492 .normal f527 s543 := PC.condT (by kernel_rfl) t636
def k639 : ACode := .seq k502 k637
theorem t640 : PC (evO badP allP Ot A 1000000 193) 1000000 k639 f489 s492 .normal f527 s543 := PC.seq t503 t638
end Go.Proofs.YtcdebohjjkffkaaGreat.tr
