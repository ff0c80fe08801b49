/- A closed run, printed by program: piece by piece. -/
import Derived.Test.YtcdebohjjkffkaaGreatSn1
namespace Go.Proofs.YtcdebohjjkffkaaGreat.ts
open Go Go.Rf
set_option maxRecDepth 1000000
def k564 : ACode := .seq (
.region [Q 8 (.bin .lss .scalar (.t 7) (.t 6))]) (
.seq (
.cond (.t 8) (
.skip) (
.exit 0)) (
.seq (
.block 1 (
.seq (
.region [Q 9 (.mov (.t 7)),
Q 4 (.mov (.t 9))]) (
.seq (
.region [Q 10 (.mov (.t 0)),
Q 11 (.mov (.t 4)),
E 12 (.callf 196 [(.t 10), (.t 11)])]) (
.cond (.t 12) (
.region [Q 13 (.mov (.t 3)),
Q 14 (.bin .add .scalar (.t 13) (ci 1)),
Q 3 (.mov (.t 14))]) (
.skip))))) (
.region [Q 15 (.bin .add .scalar (.t 7) (ci 1)),
Q 7 (.mov (.t 15))])))
def m565 : PM AVal := (.node none (.node (some (.v (.one (.s (.d (.int .i64 (.ofNat 117))))))) (.node (some (.v (.one (.s (.d (.int .i64 (.ofNat 120))))))) (.node (some (.v (.one (.s (.d (.int .i64 (.ofNat 120))))))) .nil .nil) .nil) (.node (some (.v (.one (.s (.d (.int .i64 (.ofNat 119))))))) .nil .nil)) (.node (some (.v (.one (.s (.ptr 240 0 0))))) (.node (some (.v (.one (.s (.d (.int .i64 (.ofNat 119))))))) .nil .nil) (.node (some (.v (.one (.s (.d (.int .i64 (.ofNat 116))))))) .nil .nil)))
def m566 : PM AVal := (.node (some (.v (.one (.s (.d (.int .i64 (.ofNat 0))))))) (.node (some (.v (.one (.s (.d (.int .i64 (.ofNat 119))))))) (.node (some (.v (.one (.s (.d (.bool true)))))) .nil .nil) (.node (some (.v (.one (.s (.d (.bool true)))))) .nil .nil)) (.node (some (.v (.one (.s (.d (.int .i64 (.ofNat 120))))))) (.node (some (.v (.one (.s (.ptr 240 0 0))))) .nil .nil) (.node (some (.v (.one (.s (.d (.int .i64 (.ofNat 117))))))) .nil .nil)))
def f567 : Fr := ⟨(.node (some (.v (.one (.s (.ptr 240 0 0))))) m565 m566), [], none⟩
def s568 : St := ⟨(.node (some x16) (.node (some x17) (.node none (.node none (.node none m499 (.node none .nil (.node none (.node none .nil (.node none (.node (some x18) .nil .nil) .nil)) (.node (some x456) .nil .nil)))) m405) (.node none m458 m459)) (.node none m461 m464)) (.node (some x45) m467 m476)), 10367, 0⟩
theorem l569 : PI (evO badP allP Ot A 1000000 191) 1000000 k564 120 f562 s563 f567 s568 := fun m K => by kernel_rfl
def m571 : PM AVal := (.node (some (.v (.one (.s (.d (.int .i64 (.ofNat 0))))))) (.node (some (.v (.one (.s (.d (.int .i64 (.ofNat 119))))))) (.node (some (.v (.one (.s (.d (.bool false)))))) .nil .nil) (.node (some (.v (.one (.s (.d (.bool true)))))) .nil .nil)) (.node (some (.v (.one (.s (.d (.int .i64 (.ofNat 120))))))) (.node (some (.v (.one (.s (.ptr 240 0 0))))) .nil .nil) (.node (some (.v (.one (.s (.d (.int .i64 (.ofNat 117))))))) .nil .nil)))
def f572 : Fr := ⟨(.node (some (.v (.one (.s (.ptr 240 0 0))))) m565 m571), [], none⟩
theorem t570 : PC (evO badP allP Ot A 1000000 191) 1000000 k564 f567 s568 (.exit 0) f572 s568 := fun K => by kernel_rfl
theorem l573 : PL (evO badP allP Ot A 1000000 191) 1000000 k564 999880 f567 s568 (.exit 0) f572 s568 := PL.out t570 (fun h => nomatch h)
theorem l574 : PL (evO badP allP Ot A 1000000 191) 1000000 k564 1000000 f562 s563 (.exit 0) f572 s568 := PL.some l569 (m := 999880) rfl l573
def k575 : ACode := .loop k564
theorem t576 : PC (evO badP allP Ot A 1000000 191) 1000000 k575 f562 s563 (.exit 0) f572 s568 := PC.loop l574
def k577 : ACode := .block 0 k575
theorem t578 : PC (evO badP allP Ot A 1000000 191) 1000000 k577 f562 s563 .normal f572 s568 := PC.block t576 rfl
def k579 : ACode := .seq k559 k577
theorem t580 : PC (evO badP allP Ot A 1000000 191) 1000000 k579 f558 s500 .normal f572 s568 := PC.seq t560 t578
def k581 : ACode := .seq (
.region [Q 16 (.mov (.t 3)),
Q 2 (.mov (.t 16))]) (
.ret)
def m583 : PM AVal := (.node (some (.v (.one (.s (.d (.int .i64 (.ofNat 117))))))) (.node (some (.v (.one (.s (.d (.int .i64 (.ofNat 119))))))) (.node (some (.v (.one (.s (.d (.bool false)))))) (.node (some (.v (.one (.s (.d (.int .i64 (.ofNat 117))))))) .nil .nil) .nil) (.node (some (.v (.one (.s (.d (.bool true)))))) .nil .nil)) (.node (some (.v (.one (.s (.d (.int .i64 (.ofNat 120))))))) (.node (some (.v (.one (.s (.ptr 240 0 0))))) .nil .nil) (.node (some (.v (.one (.s (.d (.int .i64 (.ofNat 117))))))) .nil .nil)))
def f584 : Fr := ⟨(.node (some (.v (.one (.s (.ptr 240 0 0))))) m565 m583), [], none⟩
theorem t582 : PC (evO badP allP Ot A 1000000 191) 1000000 k581 f572 s568 .ret f584 s568 := fun K => by kernel_rfl
def k585 : ACode := .seq k579 k581
theorem t586 : PC (evO badP allP Ot A 1000000 191) 1000000 k585 f558 s500 .ret f584 s568 := PC.seq t580 t582
def k587 : ACode := .seq k556 k585
theorem t588 : PC (evO badP allP Ot A 1000000 191) 1000000 k587 f555 s500 .ret f584 s568 := PC.seq t557 t586
def k589 : ACode := .seq k552 k587
theorem t590 : PC (evO badP allP Ot A 1000000 191) 1000000 k589 f554 s500 .ret f584 s568 := PC.seq t553 t588
def g591 : List Vl := [(.one (.s (.ptr 240 0 0)))]
theorem cc592k : a254.code = k589 := by kernel_rfl
theorem cc592 : PKO Ot A 1000000 192 254 g591 s500 (.v (.one (.s (.d (.int .i64 (.ofNat 117)))))) s568 := PKO.mk (af := a254) (K := k589) (f := f554) (s0 := s500) (by kernel_rfl) (by kernel_rfl) cc592k (by kernel_rfl) (by kernel_rfl) t590 (fun K PN => by kernel_rfl)
def m593 : PM AVal := (.node (some (.v (.one (.s (.d (.int .i64 (.ofNat 0))))))) (.node none (.node (some (.v (.one (.s (.d (.str [0, 1, 2])))))) .nil .nil) (.node (some (.v (.one (.s (.d (.int .i64 (.ofNat 117))))))) .nil .nil)) (.node (some (.v (.one (.s (.ptr 442 0 0))))) (.node (some (.v (.one (.s (.ptr 442 0 0))))) .nil .nil) .nil))
def m594 : PM AVal := (.node (some (.v (.one (.s (.ptr 442 0 0))))) (.node (some (.v (.one (.s (.d (.str [0, 1, 2])))))) (.node none (.node none (.node (some (.v (.one (.s (.d (.bool false)))))) .nil .nil) (.node (some (.v (.one (.s (.ptr 442 0 0))))) .nil .nil)) (.node none (.node (some (.v (.one (.s (.d (.bool false)))))) .nil .nil) .nil)) m593) m548)
def f595 : Fr := ⟨m594, [], none⟩
theorem o596 : PX (evO badP allP Ot A 1000000 192) [⟨some 25, .e (.callf 254 [(.t 24)]), none, 0⟩] f549 s500 f595 s568 := PX.callO (by kernel_rfl) (by kernel_rfl) cc592 (by kernel_rfl)
def r597 : List AOper := [⟨some 26, .q (.mov (.t 0)), none, 0⟩, ⟨some 27, .q (.mov (.t 1)), none, 0⟩, ⟨some 28, .q (.len .str (.t 27)), none, 0⟩, ⟨some 29, .e (.callf 255 [(.t 26), (.t 28)]), none, 0⟩, ⟨some 30, .q (.bin .lss .scalar (.t 25) (.t 29)), none, 0⟩, ⟨some 20, .q (.mov (.t 30)), none, 0⟩]
def m598 : PM AVal := (.node (some (.v (.one (.s (.d (.int .i64 (.ofNat 0))))))) (.node none (.node (some (.v (.one (.s (.d (.str [0, 1, 2])))))) .nil .nil) (.node (some (.v (.one (.s (.d (.int .i64 (.ofNat 117))))))) .nil .nil)) (.node (some (.v (.one (.s (.ptr 442 0 0))))) (.node (some (.v (.one (.s (.ptr 442 0 0))))) .nil .nil) (.node (some (.v (.one (.s (.d (.int .i64 (.ofNat 1))))))) .nil .nil)))
def m599 : PM AVal := (.node (some (.v (.one (.s (.d (.str [0, 1, 2])))))) (.node none (.node none (.node (some (.v (.one (.s (.d (.bool false)))))) .nil .nil) (.node (some (.v (.one (.s (.ptr 442 0 0))))) .nil .nil)) (.node none (.node (some (.v (.one (.s (.d (.bool false)))))) .nil .nil) (.node (some (.v (.one (.s (.d (.str [0, 1, 2])))))) .nil .nil))) m598)
def m600 : PM AVal := (.node (some (.v (.one (.s (.d (.int .i64 (.ofNat 0))))))) (.node none (.node (some (.v (.one (.s (.d (.bool false)))))) .nil .nil) (.node (some (.v (.one (.s (.ptr 240 0 0))))) .nil .nil)) (.node (some (.v (.one (.s (.d (.bool false)))))) (.node (some (.v (.one (.s (.d (.bool false)))))) .nil .nil) (.node (some (.v (.one (.s (.d (.int .i64 (.ofNat 3))))))) .nil .nil)))
def m601 : PM AVal := (.node none (.node none (.node (some (.v (.one (.s (.d (.int .i64 (.ofNat 3))))))) .nil .nil) (.node (some (.v (.one (.s (.ptr 442 0 0))))) .nil .nil)) (.node (some (.v (.one (.s (.d (.bool true)))))) (.node (some (.v (.one (.s (.ptr 442 0 0))))) .nil .nil) (.node (some (.v (.one (.s (.d (.bool false)))))) .nil .nil)))
def f602 : Fr := ⟨(.node (some (.v (.one (.s (.ptr 442 0 0))))) m599 (.node none m600 m601)), [], none⟩
theorem o603 : PX (evO badP allP Ot A 1000000 192) r597 f595 s568 f602 s568 := fun r K => by kernel_rfl
def r604 : List AOper := r597 ++ []
theorem o605 : PO (evO badP allP Ot A 1000000 192) r604 f595 s568 .normal f602 s568 := PO.app o603 PO.nil
def r606 : List AOper := r551 ++ r604
theorem o607 : PO (evO badP allP Ot A 1000000 192) r606 f549 s500 .normal f602 s568 := PO.app o596 o605
def r608 : List AOper := r546 ++ r606
theorem o609 : PO (evO badP allP Ot A 1000000 192) r608 f545 s500 .normal f602 s568 := PO.app o550 o607
def k610 : ACode := .region r608
theorem t611 : PC (evO badP allP Ot A 1000000 192) 1000000 k610 f545 s500 .normal f602 s568 := PC.region o609
def k612 : ACode := .cond (.t 20) (
.seq (
.region [Q 4 (.mov (ci 0)),
Q 5 (.mov (ci 3))]) (
.ret)) (
.skip)
theorem t613 : PC (evO badP allP Ot A 1000000 192) 1000000 k612 f602 s568 .normal f602 s568 := fun K => by kernel_rfl
def k614 : ACode := .seq k610 k612
theorem t615 : PC (evO badP allP Ot A 1000000 192) 1000000 k614 f545 s500 .normal f602 s568 := PC.seq t611 t613
def k616 : ACode := .seq (
.region [Q 4 (.mov (ci 0)),
Q 5 (.mov (ci 19))]) (
.ret)
def k617 : ACode := .cond (.t 16) k616 k614
theorem t618 : PC (evO badP allP Ot A 1000000 192) 1000000 k617 f545 s500 .normal f602 s568 := PC.condF (by kernel_rfl) t615
def k619 : ACode := .seq k541 k617
theorem t620 : PC (evO badP allP Ot A 1000000 192) 1000000 k619 f540 s500 .normal f602 s568 := PC.seq t542 t618
def k621 : ACode := .seq (
.region [Q 4 (.mov (ci 0)),
Q 5 (.mov (ci 13))]) (
.ret)
def k622 : ACode := .cond (.t 12) k621 k619
theorem t623 : PC (evO badP allP Ot A 1000000 192) 1000000 k622 f540 s500 .normal f602 s568 := PC.condF (by kernel_rfl) t620
def k624 : ACode := .seq k537 k622
theorem t625 : PC (evO badP allP Ot A 1000000 192) 1000000 k624 f536 s500 .normal f602 s568 := PC.seq t538 t623
def k626 : ACode := .block 0 k624
theorem t627 : PC (evO badP allP Ot A 1000000 192) 1000000 k626 f536 s500 .normal f602 s568 := PC.block t625 rfl
def k628 : ACode := .seq (
.region [Q 31 (.mov (.t 0)),
Q 32 (.mov (.t 1)),
E 33 (.callf 256 [(.t 31), (.t 32)]),
Q 6 (.mov (.t 33))]) (
.seq (
.region [Q 7 (.mov (.c (.one (dc (.sl [] true)))))]) (
.seq (
.seq (
.region [Q 34 (.mov (.t 6)),
Q 35 (.len .sl (.t 34)),
Q 36 (.mov (ci 0))]) (
.block 1 (
.loop (
.seq (
.region [Q 37 (.bin .lss .scalar (.t 36) (.t 35))]) (
.seq (
.cond (.t 37) (
.skip) (
.exit 1)) (
.seq (
.block 2 (
.seq (
.region [Q 39 (.mov (.t 0)),
Q 40 (.nilck (.t 39)),
Q 41 (.faddr 0 (.t 40)),
Q 42 (.load false 1 (.t 41)),
E 43 (.callf 197 [(.t 42)]),
Q 38 (.mov (.t 43)),
Q 44 (.extract 0 (.t 38)),
Q 45 (.extract 1 (.t 38)),
Q 8 (.mov (.t 44)),
Q 9 (.mov (.t 45))]) (
.region [Q 46 (.mov (.t 7)),
Q 47 (.mov (.t 8)),
M 48 (.bslice 3 1 1 [dc (.int .i64 0)] [(0, 1, (.t 47))]),
E 49 (.append 3 1 8 (.t 46) (.t 48)),
Q 7 (.mov (.t 49))]))) (
.region [Q 50 (.bin .add .scalar (.t 36) (ci 1)),
Q 36 (.mov (.t 50))]))))))) (
.seq (
.region [Q 51 (.mov (.t 7)),
M 52 (.bslice 3 1 1 [dc (.int .i64 0)] [(0, 1, (ci 0))]),
E 53 (.append 3 1 8 (.t 51) (.t 52)),
Q 7 (.mov (.t 53))]) (
.seq (
.seq (
.region [Q 54 (.mov (.t 6)),
Q 55 (.len .sl (.t 54)),
Q 56 (.mov (ci 0))]) (
.block 3 (
.loop (
.seq (
.region [Q 57 (.bin .lss .scalar (.t 56) (.t 55))]) (
.seq (
.cond (.t 57) (
.skip) (
.exit 3)) (
.seq (
.block 4 (
.seq (
.region [Q 58 (.mov (.t 56)),
Q 59 (.iaddr 1 none (.t 54) (.t 56)),
Q 60 (.load false 1 (.t 59)),
Q 10 (.mov (.t 58)),
Q 11 (.mov (.t 60))]) (
.draw [⟨0, ⟨some 61, .q (.mov (.t 0)), none, 0⟩⟩,
⟨1, ⟨some 62, .q (.nilck (.t 61)), none, 1⟩⟩,
⟨2, ⟨some 63, .q (.faddr 0 (.t 62)), none, 3⟩⟩,
⟨3, ⟨some 64, .q (.load false 1 (.t 63)), none, 7⟩⟩,
⟨4, ⟨some 65, .q (.mov (.t 7)), none, 0⟩⟩,
⟨5, ⟨some 66, .q (.mov (.t 10)), none, 0⟩⟩,
⟨6, ⟨some 67, .q (.iaddr 1 none (.t 65) (.t 66)), none, 48⟩⟩,
⟨7, ⟨some 68, .q (.load false 1 (.t 67)), none, 112⟩⟩,
⟨8, ⟨some 69, .q (.mov (.t 7)), none, 0⟩⟩,
⟨9, ⟨some 70, .q (.mov (.t 10)), none, 0⟩⟩,
⟨10, ⟨some 71, .q (.bin .add .scalar (.t 70) (ci 1)), none, 512⟩⟩,
⟨11, ⟨some 72, .q (.iaddr 1 none (.t 69) (.t 71)), none, 1792⟩⟩,
⟨12, ⟨some 73, .q (.load false 1 (.t 72)), none, 3840⟩⟩,
⟨14, ⟨some 75, .q (.mov (.t 11)), none, 0⟩⟩,
⟨15, ⟨some 76, .q (.len .sl (.t 75)), none, 16384⟩⟩,
⟨16, ⟨some 77, .q (.conv (.int .u8) (.t 76)), none, 49152⟩⟩,
⟨17, ⟨some 78, .m (.bslice 5 1 1 [dc (.int .u8 0)] [(0, 1, (.t 77))]), none, 114688⟩⟩,
⟨18, ⟨some 79, .q (.mov (.t 11)), none, 0⟩⟩,
⟨13, ⟨some 74, .e (.callf 257 [(.t 73)]), none, 7936⟩⟩,
⟨19, ⟨some 80, .e (.append 5 1 1 (.t 78) (.t 79)), none, 524032⟩⟩,
⟨20, ⟨some 81, .q (.conv .b2s (.t 80)), none, 1048320⟩⟩,
⟨21, ⟨some 82, .q (.bin .add .scalar (.t 74) (.t 81)), none, 2096896⟩⟩,
⟨22, ⟨some 83, .e (.callf 198 [(.t 64), (.t 68), (.t 82)]), none, 4194303⟩⟩]))) (
.region [Q 84 (.bin .add .scalar (.t 56) (ci 1)),
Q 56 (.mov (.t 84))]))))))) (
.seq (
.region [Q 85 (.mov (.t 7)),
Q 86 (.iaddr 1 none (.t 85) (ci 0)),
Q 87 (.load false 1 (.t 86)),
Q 4 (.mov (.t 87)),
Q 5 (.mov (ci 0))]) (
.ret))))))
def m630 : PM AVal := (.node (some (.v (.one (.s (.ptr 442 0 0))))) (.node (some (.v (.one (.s (.ptr 442 0 0))))) (.node (some (.v (.one (.s (.d (.int .i64 (.ofNat 1))))))) .nil .nil) .nil) (.node (some (.v (.one (.s (.d (.int .i64 (.ofNat 1))))))) (.node (some (.v (.one (.s (.d (.int .i64 (.ofNat 3))))))) .nil .nil) .nil))
def m631 : PM AVal := (.node (some (.v (.one (.s (.sl 10512 1 0 2 false))))) (.node (some (.v (.one (.s (.d (.bool false)))))) (.node (some (.v (.one (.s (.ptr 442 0 0))))) (.node (some (.v (.one (.s (.ptr 442 0 0))))) .nil .nil) .nil) (.node (some (.v (.one (.s (.d (.int .i64 (.ofNat 3))))))) (.node (some (.v (.one (.s (.d h274))))) .nil .nil) .nil)) m630)
def m632 : PM AVal := (.node (some (.v (.one (.s (.d (.bool false)))))) (.node (some (.v (.one (.s (.d (.int .i64 (.ofNat 1))))))) (.node (some (.v (.one (.s (.ptr 10512 1 0))))) .nil .nil) .nil) (.node (some (.v (.one (.s (.sl 10512 0 0 1 false))))) (.node (some (.v (.one (.s (.d (.int .i64 (.ofNat 0))))))) .nil .nil) .nil))
def y633 : AVal := (.tup [(.one (.s (.d (.int .i64 (.ofNat 3))))), (.one (.s (.d (.int .i64 (.ofNat 0)))))])
def m634 : PM AVal := (.node (some (.v (.one (.s (.d (.str [0, 1, 2])))))) (.node (some (.v (.one (.s (.sl 10369 0 0 1 false))))) (.node (some (.v (.one (.s (.sl 10512 1 0 2 false))))) .nil .nil) .nil) (.node (some (.v (.one (.s (.sl 10512 0 0 1 false))))) (.node (some (.v (.one (.s (.d (.str [3, 0, 1, 2])))))) .nil .nil) .nil))
def m635 : PM AVal := (.node (some (.v (.one (.s (.d (.int .i64 (.ofNat 0))))))) m634 (.node (some (.v (.one (.s (.d (.int .i64 (.ofNat 117))))))) (.node (some (.v (.one (.s (.ptr 442 0 0))))) (.node (some (.v (.one (.s (.d (.int .i64 (.ofNat 0))))))) .nil .nil) .nil) (.node (some (.v (.one (.s (.d (.bool false)))))) .nil .nil)))
def m636 : PM AVal := (.node (some (.v (.one (.s (.ptr 442 0 0))))) (.node (some (.v (.one (.s (.ptr 442 0 0))))) (.node (some (.v (.one (.s (.d (.bool false)))))) (.node (some (.v (.one (.s (.sl 10512 1 0 2 false))))) .nil .nil) .nil) (.node (some (.v (.one (.s (.sl 10512 1 0 2 false))))) (.node (some (.v (.one (.s (.sl 10512 1 0 2 false))))) .nil .nil) .nil)) (.node (some (.v (.one (.s (.d (.int .i64 (.ofNat 1))))))) (.node (some (.v (.one (.s (.d (.int .i64 (.ofNat 0))))))) (.node (some (.v (.one (.s (.d (.int .u8 (.ofNat 3))))))) .nil .nil) .nil) (.node (some (.v (.one (.s (.ptr 442 0 0))))) .nil .nil)))
def m637 : PM AVal := (.node (some (.v (.one (.s (.d (.str [0, 1, 2])))))) (.node none m631 (.node (some (.v (.one (.s (.d h274))))) m632 (.node (some (.v (.one (.s (.d (.str [0, 1, 2])))))) (.node (some y633) (.node (some (.v (.one (.s (.d h274))))) .nil .nil) .nil) (.node (some (.v (.one (.s (.ptr 10369 0 0))))) .nil .nil)))) (.node (some (.v (.one (.s (.d (.int .i64 (.ofNat 0))))))) m635 m636))
def m638 : PM AVal := (.node (some (.v (.one (.s (.d (.int .i64 (.ofNat 3))))))) (.node (some (.v (.one (.s (.d (.bool false)))))) (.node (some (.v (.one (.s (.d (.str [0, 1, 2])))))) (.node (some (.v (.one (.s (.ptr 240 0 0))))) .nil .nil) .nil) (.node (some (.v (.one (.s (.sl 10511 0 0 1 true))))) (.node (some (.v (.one (.s (.sl 10538 0 0 4 false))))) .nil .nil) .nil)) (.node (some (.v (.one (.s (.ptr 240 0 0))))) (.node (some (.v (.one (.s (.ptr 442 0 0))))) (.node (some (.v (.one (.s (.ptr 10512 1 1))))) .nil .nil) .nil) (.node (some (.v (.one (.s (.d (.int .i64 (.ofNat 1))))))) .nil .nil)))
def m639 : PM AVal := (.node (some (.v (.one (.s (.d (.bool false)))))) (.node (some (.v (.one (.s (.d (.int .i64 (.ofNat 1))))))) (.node (some (.v (.one (.s (.d (.int .i64 (.ofNat 3))))))) .nil .nil) .nil) (.node (some (.v (.one (.s (.sl 10513 0 0 1 true))))) (.node (some (.v (.one (.s (.d (.int .i64 (.ofNat 1))))))) .nil .nil) .nil))
def m640 : PM AVal := (.node (some (.v (.one (.s (.d (.bool false)))))) m639 (.node (some (.v (.one (.s (.d (.int .i64 (.ofNat 3))))))) (.node (some (.v (.one (.s (.d (.int .i64 (.ofNat 3))))))) (.node (some (.v (.one (.s (.d (.int .i64 (.ofNat 3))))))) .nil .nil) .nil) (.node (some (.v (.one (.s (.d h274))))) .nil .nil)))
def m641 : PM AVal := (.node (some (.v (.one (.s (.d (.int .i64 (.ofNat 3))))))) (.node (some (.v (.one (.s (.sl 10369 0 0 1 false))))) (.node (some (.v (.one (.s (.d (.int .i64 (.ofNat 0))))))) .nil .nil) .nil) (.node (some (.v (.one (.s (.d (.int .i64 (.ofNat 1))))))) (.node (some (.v (.one (.s (.d (.str [0, 0, 3, 0, 1, 2])))))) .nil .nil) .nil))
def m642 : PM AVal := (.node (some (.v (.one (.s (.d (.bool true)))))) (.node (some (.v (.one (.s (.ptr 442 0 0))))) (.node (some y633) (.node (some (.v (.one (.s (.d (.int .i64 (.ofNat 0))))))) .nil .nil) .nil) (.node (some (.v (.one (.s (.sl 10369 0 0 1 false))))) (.node (some (.v (.one (.s (.ptr 10512 1 0))))) .nil .nil) .nil)) (.node (some (.v (.one (.s (.d (.bool false)))))) (.node (some (.v (.one (.s (.d (.sl [] true)))))) (.node (some (.v (.one (.s (.sl 10531 0 0 1 true))))) .nil .nil) .nil) (.node (some (.v (.one (.s (.ptr 442 0 0))))) .nil .nil)))
def m643 : PM AVal := (.node (some (.v (.one (.s (.sl 10369 0 0 1 false))))) (.node (some (.v (.one (.s (.d (.int .i64 (.ofNat 0))))))) m641 (.node (some (.v (.one (.s (.ptr 442 0 0))))) (.node (some (.v (.one (.s (.ptr 240 0 0))))) (.node (some (.v (.one (.s (.d (.str [0, 0])))))) .nil .nil) .nil) (.node (some (.v (.one (.s (.d (.int .i64 (.ofNat 0))))))) .nil .nil))) m642)
def f644 : Fr := ⟨(.node (some (.v (.one (.s (.ptr 442 0 0))))) m637 (.node none (.node (some (.v (.one (.s (.d (.int .i64 (.ofNat 3))))))) m638 m640) m643)), [], none⟩
def x645 : AObj := (.map (.int .i64) [⟨[(.int .i64 (.ofNat 0))], 2, (.one (.s (.d h243)))⟩, ⟨[(.int .i64 (.ofNat 2))], 3, (.one (.s (.d h245)))⟩, ⟨[(.int .i64 (.ofNat 3))], 4, (.one (.s (.d h246)))⟩] 5)
def m646 : PM AObj := (.node none (.node none m251 (.node (some x19) (.node (some x19) .nil .nil) (.node (some x20) (.node none .nil (.node (some x43) .nil .nil)) .nil))) (.node none (.node none (.node none (.node none .nil (.node none (.node none (.node none .nil (.node none (.node (some x252) .nil .nil) .nil)) .nil) .nil)) .nil) .nil) (.node none (.node none .nil (.node none (.node (some x18) .nil .nil) .nil)) (.node (some x645) .nil .nil))))
def m647 : PM AObj := (.node none (.node none .nil (.node none (.node none (.node (some x23) .nil .nil) .nil) (.node none .nil (.node none (.node none (.node none .nil (.node (some x260) .nil .nil)) .nil) .nil)))) (.node none (.node none (.node none .nil (.node none (.node none (.node none .nil (.node none (.node (some x40) .nil .nil) .nil)) .nil) .nil)) (.node none (.node (some x28) .nil .nil) .nil)) .nil))
def m648 : PM AObj := (.node (some x18) m647 (.node none (.node (some x29) (.node (some x29) .nil .nil) (.node none (.node none .nil (.node (some x207) .nil .nil)) .nil)) (.node none .nil (.node none .nil (.node none (.node (some x30) .nil .nil) (.node none (.node none (.node none .nil (.node (some x249) .nil .nil)) .nil) .nil))))))
def m649 : PM AObj := (.node (some x19) (.node (some x18) (.node (some x18) (.node none (.node (some x36) .nil .nil) .nil) .nil) (.node none (.node none .nil (.node (some x217) .nil .nil)) .nil)) (.node none (.node none (.node none .nil (.node none (.node none (.node none .nil (.node none (.node (some x280) .nil .nil) .nil)) .nil) .nil)) (.node none (.node (some x37) .nil .nil) .nil)) (.node none (.node none .nil (.node (some x281) .nil .nil)) .nil)))
def m650 : PM AObj := (.node none (.node none (.node none m277 (.node none (.node none (.node (some x18) .nil .nil) .nil) .nil)) m278) (.node none m649 (.node none (.node none (.node none (.node none .nil (.node (some x38) .nil .nil)) (.node (some x18) .nil .nil)) .nil) (.node none (.node none .nil (.node none (.node (some x28) .nil .nil) .nil)) (.node none .nil (.node none (.node (some x30) .nil .nil) .nil))))))
def m651 : PM AObj := (.node (some x17) (.node none (.node none m646 m405) (.node none m648 m459)) (.node none m650 (.node none (.node none m462 m292) (.node (some x29) (.node none (.node none (.node none .nil (.node none .nil (.node (some x276) .nil .nil))) .nil) (.node (some x42) (.node (some x26) .nil .nil) (.node none (.node none .nil (.node (some x91) .nil .nil)) .nil))) m463))))
def s652 : St := ⟨(.node (some x16) m651 m521), 10559, 0⟩
theorem t629 : PC (evO badP allP Ot A 1000000 192) 1000000 k628 f602 s568 .ret f644 s652 := fun K => by kernel_rfl
def k653 : ACode := .seq k626 k628
theorem t654 : PC (evO badP allP Ot A 1000000 192) 1000000 k653 f536 s500 .ret f644 s652 := PC.seq t627 t629
def k655 : ACode := .seq k534 k653
theorem t656 : PC (evO badP allP Ot A 1000000 192) 1000000 k655 f527 s500 .ret f644 s652 := PC.seq t535 t654
def g657 : List Vl := [(.one (.s (.ptr 442 0 0))), (.one (.s (.d (.str [0, 1, 2]))))]
theorem cc658k : a191.code = k655 := by kernel_rfl
theorem cc658 : PKO Ot A 1000000 193 191 g657 s500 y633 s652 := PKO.mk (af := a191) (K := k655) (f := f527) (s0 := s500) (by kernel_rfl) (by kernel_rfl) cc658k (by kernel_rfl) (by kernel_rfl) t656 (fun K PN => by kernel_rfl)
def m659 : PM AVal := (.node (some (.v (.one (.s (.ptr 442 0 0))))) (.node (some (.v (.one (.s (.d (.str [0, 1, 2])))))) .nil (.node none (.node (some (.v (.one (.s (.d (.str [0, 1, 2])))))) .nil .nil) .nil)) (.node none (.node (some (.v (.one (.s (.d (.int .i64 (.ofNat 0))))))) (.node (some (.v (.one (.s (.ptr 442 0 0))))) .nil .nil) .nil) (.node none (.node (some y633) .nil .nil) .nil)))
def f660 : Fr := ⟨m659, [], none⟩
theorem o661 : PX (evO badP allP Ot A 1000000 193) [⟨some 10, .e (.callf 191 [(.t 8), (.t 9)]), none, 0⟩] f531 s500 f660 s652 := PX.callO (by kernel_rfl) (by kernel_rfl) cc658 (by kernel_rfl)
def r662 : List AOper := [⟨some 7, .q (.mov (.t 10)), none, 0⟩, ⟨some 11, .q (.extract 0 (.t 7)), none, 0⟩, ⟨some 12, .q (.extract 1 (.t 7)), none, 0⟩, ⟨some 5, .q (.mov (.t 11)), none, 0⟩, ⟨some 6, .q (.mov (.t 12)), none, 0⟩]
def m663 : PM AVal := (.node (some (.v (.one (.s (.ptr 442 0 0))))) (.node (some (.v (.one (.s (.d (.str [0, 1, 2])))))) (.node none (.node (some y633) .nil .nil) (.node (some (.v (.one (.s (.d (.int .i64 (.ofNat 3))))))) .nil .nil)) (.node (some (.v (.one (.s (.d (.int .i64 (.ofNat 3))))))) (.node (some (.v (.one (.s (.d (.str [0, 1, 2])))))) .nil .nil) .nil)) (.node none (.node (some (.v (.one (.s (.d (.int .i64 (.ofNat 0))))))) (.node (some (.v (.one (.s (.ptr 442 0 0))))) .nil .nil) (.node (some (.v (.one (.s (.d (.int .i64 (.ofNat 0))))))) .nil .nil)) (.node (some (.v (.one (.s (.d (.int .i64 (.ofNat 0))))))) (.node (some y633) .nil .nil) .nil)))
def f664 : Fr := ⟨m663, [], none⟩
theorem o665 : PX (evO badP allP Ot A 1000000 193) r662 f660 s652 f664 s652 := fun r K => by kernel_rfl
def r666 : List AOper := r662 ++ []
theorem o667 : PO (evO badP allP Ot A 1000000 193) r666 f660 s652 .normal f664 s652 := PO.app o665 PO.nil
def r668 : List AOper := r533 ++ r666
theorem o669 : PO (evO badP allP Ot A 1000000 193) r668 f531 s500 .normal f664 s652 := PO.app o661 o667
def r670 : List AOper := r529 ++ r668
theorem o671 : PO (evO badP allP Ot A 1000000 193) r670 f528 s500 .normal f664 s652 := PO.app o532 o669
def k672 : ACode := .region r670
theorem t673 : PC (evO badP allP Ot A 1000000 193) 1000000 k672 f528 s500 .normal f664 s652 := PC.region o671
def k674 : ACode := .seq (
.seq (
.region [Q 13 (.mov (.t 6)),
Q 14 (.bin .neq .scalar (.t 13) (ci 0))]) (
.cond (.t 14) (
.seq (
.region [Q 15 (.mov (.t 6)),
Q 4 (.mov (.t 15))]) (
.ret)) (
.skip))) (
.seq (
.region [Q 16 (.mov (.t 0)),
Q 17 (.mov (.t 0)),
E 18 (.callf 211 [(.t 17)]),
E 19 (.callf 190 [(.t 16), (.t 18)])]) (
.seq (
.draw [⟨0, ⟨some 20, .q (.mov (.t 0)), none, 0⟩⟩,
⟨1, ⟨some 21, .q (.nilck (.t 20)), none, 1⟩⟩,
⟨2, ⟨some 22, .q (.faddr 0 (.t 21)), none, 3⟩⟩,
⟨3, ⟨some 23, .q (.load false 1 (.t 22)), none, 7⟩⟩,
⟨4, ⟨some 24, .m (.bslice 5 1 1 [dc (.int .u8 0)] [(0, 1, (.c (.one (dc (.int .u8 82)))))]), none, 0⟩⟩,
⟨5, ⟨some 25, .q (.conv .b2s (.t 24)), none, 16⟩⟩,
⟨6, ⟨some 26, .q (.mov (.t 5)), none, 0⟩⟩,
⟨7, ⟨some 27, .e (.callf 257 [(.t 26)]), none, 64⟩⟩,
⟨8, ⟨some 28, .q (.bin .add .scalar (.t 25) (.t 27)), none, 240⟩⟩,
⟨9, ⟨some 29, .e (.callf 198 [(.t 23), (ci 1), (.t 28)]), none, 511⟩⟩]) (
.seq (
.region [Q 4 (.mov (ci 0))]) (
.ret))))
def m676 : PM AVal := (.node (some (.v (.one (.s (.d (.int .i64 (.ofNat 3))))))) (.node (some (.v (.one (.s (.d (.str [0, 1, 2])))))) (.node (some (.v (.one (.s (.ptr 442 0 0))))) .nil .nil) (.node (some (.v (.one (.s (.d (.str [82])))))) .nil .nil)) (.node (some (.v (.one (.s (.d (.int .i64 (.ofNat 0))))))) (.node (some (.v (.one (.s (.ptr 442 0 0))))) .nil .nil) (.node (some (.v (.one (.s (.d (.int .i64 (.ofNat 0))))))) .nil .nil)))
def m677 : PM AVal := (.node (some (.v (.one (.s (.d (.str [0, 1, 2])))))) (.node none (.node (some y633) .nil (.node (some (.v (.one (.s (.ptr 240 0 0))))) .nil .nil)) (.node (some (.v (.one (.s (.d (.int .i64 (.ofNat 3))))))) (.node (some (.v (.one (.s (.d (.int .i64 (.ofNat 4))))))) .nil .nil) (.node (some (.v (.one (.s (.d (.str [0, 3])))))) .nil .nil))) m676)
def m678 : PM AVal := (.node (some (.v (.one (.s (.d (.int .i64 (.ofNat 0))))))) (.node (some (.v (.one (.s (.ptr 442 0 0))))) (.node (some (.v (.one (.s (.ptr 442 0 0))))) .nil .nil) (.node (some (.v (.one (.s (.sl 10595 0 0 1 true))))) .nil .nil)) (.node (some (.v (.one (.s (.d (.int .i64 (.ofNat 0))))))) (.node (some (.v (.one (.s (.ptr 442 0 0))))) .nil .nil) (.node (some (.v (.one (.s (.d (.str [82, 0, 3])))))) .nil .nil)))
def m679 : PM AVal := (.node (some (.v (.one (.s (.d (.int .i64 (.ofNat 0))))))) (.node (some y633) (.node (some (.v (.one (.s (.d (.int .i64 (.ofNat 0))))))) .nil .nil) (.node (some (.v (.one (.s (.d (.int .i64 (.ofNat 3))))))) .nil .nil)) (.node (some (.v (.one (.s (.d (.bool false)))))) (.node (some (.v (.one (.s (.ptr 442 0 0))))) .nil .nil) .nil))
def f680 : Fr := ⟨(.node (some (.v (.one (.s (.ptr 442 0 0))))) m677 (.node none m678 m679)), [], none⟩
theorem t675 : PC (evO badP allP Ot A 1000000 193) 1000000 k674 f664 s652 .ret f680 s522 := fun K => by kernel_rfl
def k681 : ACode := .seq k672 k674
theorem t682 : PC (evO badP allP Ot A 1000000 193) 1000000 k681 f528 s500 .ret f680 s522 := PC.seq t673 t675
def k683 : ACode := .seq k525 k681
theorem t684 : PC (evO badP allP Ot A 1000000 193) 1000000 k683 f527 s500 .ret f680 s522 := PC.seq t526 t682
theorem cc685k : a251.code = k683 := by kernel_rfl
theorem cc685 : PKO Ot A 1000000 194 251 g657 s500 (.v (.one (.s (.d (.int .i64 (.ofNat 0)))))) s522 := PKO.mk (af := a251) (K := k683) (f := f527) (s0 := s500) (by kernel_rfl) (by kernel_rfl) cc685k (by kernel_rfl) (by kernel_rfl) t684 (fun K PN => by kernel_rfl)
theorem d686 : PD (evO badP allP Ot A 1000000 194) 6647 q492 [⟨6, ⟨some 23, .e (.callf 251 [(.t 20), (.t 22)]), none, 63⟩⟩] w506 w523 := PD.callO (by kernel_rfl) (by kernel_rfl) (by kernel_rfl) cc685 (by kernel_rfl) (by kernel_rfl)
def q687 : List DOp := [⟨7, ⟨some 8, .q (.mov (.t 23)), none, 127⟩⟩]
theorem d688 : PD (evO badP allP Ot A 1000000 194) 6647 q492 q687 w523 w523 := fun r K => by kernel_rfl
theorem d689 : PR (evO badP allP Ot A 1000000 194) 6647 q492 [] w523 f510 s522 := fun K => by kernel_rfl
def q690 : List DOp := q687 ++ []
theorem d691 : PR (evO badP allP Ot A 1000000 194) 6647 q492 q690 w523 f510 s522 := PR.app d688 d689
def q692 : List DOp := q524 ++ q690
theorem d693 : PR (evO badP allP Ot A 1000000 194) 6647 q492 q692 w506 f510 s522 := PR.app d686 d691
def q694 : List DOp := q507 ++ q692
theorem d695 : PR (evO badP allP Ot A 1000000 194) 6647 q492 q694 w494 f510 s522 := PR.app d508 d693
def k696 : ACode := .draw q492
theorem t697 : PC (evO badP allP Ot A 1000000 194) 1000000 k696 f491 s477 .normal f510 s522 := PC.drawN (by kernel_rfl) (by kernel_rfl) (by kernel_rfl) d695
def k698 : ACode := .cond (.t 16) k696 k137
theorem t699 : PC (evO badP allP Ot A 1000000 194) 1000000 k698 f491 s477 .normal f510 s522 := PC.condT (by kernel_rfl) t697
def k700 : ACode := .seq k487 k698
theorem t701 : PC (evO badP allP Ot A 1000000 194) 1000000 k700 f474 s477 .normal f510 s522 := PC.seq t488 t699
def k702 : ACode := .seq (
.region [Q 24 (.mov (.t 8)),
Q 25 (.bin .neq .scalar (.t 24) (ci 0))]) (
.cond (.t 25) (
.seq (
.region [Q 26 (.mov (.t 0)),
Q 27 (.nilck (.t 26)),
Q 28 (.faddr 0 (.t 27)),
Q 29 (.load false 1 (.t 28)),
E 30 (.callf 209 [(.t 29)])]) (
.seq (
.region [Q 6 (.mov (ci 3))]) (
.ret))) (
.skip))
def m704 : PM AVal := (.node (some (.v (.one (.s (.ptr 861 0 0))))) (.node none (.node (some (.v (.one (.s (.ptr 6646 0 0))))) (.node (some (.v (.one (.s (.d (.int .i64 (.ofNat 0))))))) .nil .nil) (.node (some (.v (.one (.s (.d (.int .i64 (.ofNat 0))))))) .nil .nil)) (.node (some (.v (.one e437))) (.node (some (.v (.one (.s (.ptr 794 0 1))))) .nil .nil) .nil)) (.node none (.node none (.node (some (.v (.one (.s (.ptr 794 0 0))))) .nil .nil) (.node (some (.v (.one (.s (.d (.bool false)))))) .nil .nil)) (.node (some (.v u452)) (.node (some (.v u452)) .nil .nil) .nil)))
def m705 : PM AVal := (.node none (.node (some (.v (.one (.s (.d (.int .i64 (.ofNat 0))))))) (.node (some (.v (.one (.s (.d (.bool true)))))) .nil .nil) (.node (some (.v (.one (.s (.d (.int .i64 (.ofNat 0))))))) .nil .nil)) (.node (some (.tup [u452, (.one (.s (.d (.int .i64 (.ofNat 0)))))])) (.node (some (.v (.one (.s (.ptr 442 0 0))))) .nil .nil) .nil))
def f706 : Fr := ⟨(.node (some (.v (.one (.s (.ptr 794 0 0))))) m704 (.node (some (.v (.one e437))) m705 m496)), [], none⟩
theorem t703 : PC (evO badP allP Ot A 1000000 194) 1000000 k702 f510 s522 .normal f706 s522 := fun K => by kernel_rfl
def r707 : List AOper := [⟨some 31, .q (.mov (.t 0)), none, 0⟩, ⟨some 32, .q (.nilck (.t 31)), none, 0⟩, ⟨some 33, .q (.faddr 0 (.t 32)), none, 0⟩, ⟨some 34, .q (.load false 1 (.t 33)), none, 0⟩]
def m708 : PM AVal := (.node none (.node (some (.v (.one (.s (.ptr 6646 0 0))))) (.node (some (.v (.one (.s (.d (.int .i64 (.ofNat 0))))))) (.node (some (.v (.one (.s (.ptr 794 0 0))))) .nil .nil) .nil) (.node (some (.v (.one (.s (.d (.int .i64 (.ofNat 0))))))) .nil .nil)) (.node (some (.v (.one e437))) (.node (some (.v (.one (.s (.ptr 794 0 1))))) .nil .nil) .nil))
def m709 : PM AVal := (.node (some (.v (.one (.s (.ptr 861 0 0))))) m708 (.node none (.node none (.node (some (.v (.one (.s (.ptr 794 0 0))))) (.node (some (.v (.one (.s (.ptr 794 0 0))))) .nil .nil) .nil) (.node (some (.v (.one (.s (.d (.bool false)))))) .nil .nil)) (.node (some (.v u452)) (.node (some (.v u452)) .nil .nil) .nil)))
def m710 : PM AVal := (.node none (.node (some (.v (.one (.s (.d (.int .i64 (.ofNat 0))))))) (.node (some (.v (.one (.s (.d (.bool true)))))) (.node (some (.v (.one (.s (.ptr 794 0 0))))) .nil .nil) .nil) (.node (some (.v (.one (.s (.d (.int .i64 (.ofNat 0))))))) .nil .nil)) (.node (some (.tup [u452, (.one (.s (.d (.int .i64 (.ofNat 0)))))])) (.node (some (.v (.one (.s (.ptr 442 0 0))))) .nil .nil) .nil))
def m711 : PM AVal := (.node (some (.v (.one (.s (.d (.int .i64 (.ofNat 0))))))) (.node (some (.tup [u452, (.one (.s (.d (.int .i64 (.ofNat 0)))))])) (.node (some (.v (.one (.s (.ptr 794 0 0))))) (.node (some (.v (.one (.s (.ptr 240 0 0))))) .nil .nil) .nil) .nil) (.node (some (.v (.one (.s (.d (.int .i64 (.ofNat 0))))))) (.node (some (.v (.one (.s (.d (.str [0, 1, 2])))))) .nil .nil) .nil))
def f712 : Fr := ⟨(.node (some (.v (.one (.s (.ptr 794 0 0))))) m709 (.node (some (.v (.one e437))) m710 m711)), [], none⟩
theorem o713 : PX (evO badP allP Ot A 1000000 194) r707 f706 s522 f712 s522 := fun r K => by kernel_rfl
def r714 : List AOper := [⟨some 35, .e (.callf 138 [(.t 34)]), none, 0⟩]
def k715 : ACode := .region [M 1 (.box 59 1 (.t 0)),
Q 2 (.mov (ci 0))]
def f717 : Fr := ⟨(.node (some (.v (.one (.s (.ptr 240 0 0))))) (.node (some (.v (.one (.s (.ptr 10622 0 0))))) .nil .nil) (.node (some (.v (.one (.s (.d (.int .i64 (.ofNat 0))))))) .nil .nil)), [], none⟩
def m718 : PM AObj := (.node none (.node none .nil (.node (some x20) (.node none .nil (.node (some x55) .nil .nil)) .nil)) (.node none (.node none (.node none .nil (.node (some x183) (.node none (.node none .nil (.node none (.node (some x18) .nil .nil) .nil)) .nil) .nil)) .nil) (.node none (.node none .nil (.node none (.node none (.node none .nil (.node none (.node (some x34) .nil .nil) .nil)) .nil) .nil)) .nil)))
def m719 : PM AObj := (.node none (.node none m468 (.node none (.node none (.node none (.node none (.node none (.node (some x36) .nil .nil) .nil) .nil) (.node none (.node none .nil (.node (some x55) .nil .nil)) .nil)) m326) m417)) (.node none (.node none (.node none (.node none .nil (.node none (.node none (.node (some x23) .nil .nil) .nil) .nil)) (.node none (.node none (.node none .nil (.node none (.node none (.node none .nil (.node (some x333) .nil .nil)) .nil) .nil)) .nil) .nil)) m475) (.node (some x41) m338 m718)))
def m720 : PM AObj := (.node (some x16) (.node (some x17) (.node none (.node none m512 m405) (.node none m514 m459)) m517) (.node (some x45) (.node none m519 (.node none (.node none m315 (.node none (.node (some x41) (.node (some x41) .nil .nil) .nil) (.node none .nil (.node none .nil (.node none .nil (.node none (.node none (.node none .nil (.node (some x272) .nil .nil)) .nil) .nil)))))) m466)) m719))
def s721 : St := ⟨m720, 10623, 0⟩
theorem t716 : PC (evO badP allP Ot A 1000000 193) 1000000 k715 f554 s522 .normal f717 s721 := fun K => by kernel_rfl
def k722 : ACode := .block 0 (
.seq (
.region [Q 9 (.load false 1 (.t 1)),
E 10 (.callf 200 [(.t 9)]),
Q 11 (.un .not (.t 10)),
Q 8 (.mov (.t 11))]) (
.cond (.t 8) (
.seq (
.region [Q 2 (.mov (ci 13))]) (
.ret)) (
.seq (
.region [Q 13 (.load false 1 (.t 1)),
Q 14 (.nilck (.t 13)),
Q 15 (.faddr 4 (.t 14)),
Q 16 (.load false 1 (.t 15)),
Q 12 (.mov (.t 16))]) (
.cond (.t 12) (
.seq (
.region [Q 2 (.mov (ci 6))]) (
.ret)) (
.seq (
.region [Q 18 (.load false 1 (.t 1)),
Q 19 (.nilck (.t 18)),
Q 20 (.faddr 3 (.t 19)),
Q 21 (.load false 1 (.t 20)),
Q 22 (.len .map (.t 21)),
Q 23 (.bin .eql .scalar (.t 22) (ci 0)),
Q 17 (.mov (.t 23))]) (
.cond (.t 17) (
.seq (
.region [Q 2 (.mov (ci 0))]) (
.ret)) (
.skip)))))))
def m724 : PM AVal := (.node (some (.v (.one (.s (.ptr 10622 0 0))))) (.node none (.node none (.node (some (.v (.one (.s (.ptr 240 0 4))))) .nil .nil) (.node (some (.v (.one (.s (.d (.bool false)))))) .nil .nil)) (.node (some (.v (.one (.s (.d (.bool false)))))) (.node (some (.v (.one (.s (.ptr 240 0 0))))) .nil .nil) .nil)) (.node none (.node (some (.v (.one (.s (.ptr 240 0 0))))) (.node (some (.v (.one (.s (.d (.bool false)))))) .nil .nil) .nil) (.node (some (.v (.one (.s (.ptr 240 0 0))))) (.node (some (.v (.one (.s (.mp 239))))) .nil .nil) .nil)))
def m725 : PM AVal := (.node (some (.v (.one (.s (.d (.int .i64 (.ofNat 0))))))) (.node none (.node (some (.v (.one (.s (.d (.bool false)))))) (.node (some (.v (.one (.s (.d (.bool false)))))) .nil .nil) .nil) (.node (some (.v (.one (.s (.d (.bool false)))))) (.node (some (.v (.one (.s (.ptr 240 0 3))))) .nil .nil) .nil)) (.node none (.node (some (.v (.one (.s (.d (.bool true)))))) (.node (some (.v (.one (.s (.ptr 240 0 0))))) .nil .nil) .nil) (.node (some (.v (.one (.s (.ptr 240 0 0))))) (.node (some (.v (.one (.s (.d (.int .i64 (.ofNat 4))))))) .nil .nil) .nil)))
def f726 : Fr := ⟨(.node (some (.v (.one (.s (.ptr 240 0 0))))) m724 m725), [], none⟩
theorem t723 : PC (evO badP allP Ot A 1000000 193) 1000000 k722 f717 s721 .normal f726 s721 := fun K => by kernel_rfl
def k727 : ACode := .draw [⟨0, ⟨some 24, .q (.load false 1 (.t 1)), none, 0⟩⟩,
⟨1, ⟨some 25, .q (.load false 1 (.t 1)), none, 0⟩⟩,
⟨2, ⟨some 26, .q (.nilck (.t 25)), none, 2⟩⟩,
⟨3, ⟨some 27, .q (.faddr 3 (.t 26)), none, 6⟩⟩,
⟨4, ⟨some 28, .q (.load false 1 (.t 27)), none, 14⟩⟩,
⟨6, ⟨some 3, .m (.alloc 9 1 [dc (.str [])]), none, 0⟩⟩,
⟨5, ⟨some 29, .e (.callf 201 [(.t 24), (.t 28)]), none, 31⟩⟩,
⟨7, ⟨none, .e (.store 1 (.t 3) (.t 29)), none, 127⟩⟩]
def m729 : PM AVal := (.node (some (.v (.one (.s (.ptr 10629 0 0))))) (.node none (.node (some (.v (.one (.s (.ptr 240 0 4))))) .nil .nil) (.node (some (.v (.one (.s (.d (.bool false)))))) .nil .nil)) (.node (some (.v (.one (.s (.d (.bool false)))))) (.node (some (.v (.one (.s (.ptr 240 0 0))))) .nil .nil) (.node (some (.v (.one (.s (.ptr 240 0 3))))) .nil .nil)))
def m730 : PM AVal := (.node none (.node (some (.v (.one (.s (.ptr 240 0 0))))) (.node (some (.v (.one (.s (.d (.bool false)))))) .nil .nil) (.node (some (.v (.one (.s (.ptr 240 0 0))))) .nil .nil)) (.node (some (.v (.one (.s (.ptr 240 0 0))))) (.node (some (.v (.one (.s (.mp 239))))) .nil .nil) (.node (some (.v (.one (.s (.d h255))))) .nil .nil)))
def m731 : PM AVal := (.node none (.node (some (.v (.one (.s (.d (.bool false)))))) (.node (some (.v (.one (.s (.d (.bool false)))))) .nil .nil) (.node (some (.v (.one (.s (.ptr 240 0 0))))) .nil .nil)) (.node (some (.v (.one (.s (.d (.bool false)))))) (.node (some (.v (.one (.s (.ptr 240 0 3))))) .nil .nil) (.node (some (.v (.one (.s (.mp 239))))) .nil .nil)))
def m732 : PM AVal := (.node (some (.v (.one (.s (.d (.int .i64 (.ofNat 0))))))) m731 (.node none (.node (some (.v (.one (.s (.d (.bool true)))))) (.node (some (.v (.one (.s (.ptr 240 0 0))))) .nil .nil) (.node (some (.v (.one (.s (.ptr 240 0 0))))) .nil .nil)) (.node (some (.v (.one (.s (.ptr 240 0 0))))) (.node (some (.v (.one (.s (.d (.int .i64 (.ofNat 4))))))) .nil .nil) .nil)))
def f733 : Fr := ⟨(.node (some (.v (.one (.s (.ptr 240 0 0))))) (.node (some (.v (.one (.s (.ptr 10622 0 0))))) m729 m730) m732), [], none⟩
def m734 : PM AObj := (.node none (.node none (.node none .nil (.node none .nil (.node none (.node none (.node none .nil (.node none (.node (some x256) .nil .nil) .nil)) .nil) .nil))) (.node (some x40) (.node none (.node (some x36) .nil .nil) .nil) .nil)) (.node none (.node none (.node none .nil (.node none (.node none (.node none .nil (.node (some x289) .nil .nil)) .nil) .nil)) .nil) (.node (some x18) (.node none .nil (.node (some x290) .nil .nil)) .nil)))
def m735 : PM AObj := (.node none (.node none (.node none (.node none m277 (.node none (.node none (.node (some x18) .nil .nil) .nil) .nil)) m278) m515) (.node none (.node none m734 m292) (.node (some x29) (.node none (.node none (.node none .nil (.node none .nil (.node (some x276) .nil .nil))) .nil) (.node (some x42) (.node (some x26) .nil .nil) (.node none (.node none .nil (.node (some x91) .nil .nil)) .nil))) m516)))
def m736 : PM AObj := (.node (some x16) (.node (some x17) (.node none (.node none m512 m405) (.node none m514 m459)) m735) (.node (some x45) (.node none m519 (.node none (.node none m315 (.node none (.node (some x41) (.node (some x41) .nil .nil) .nil) (.node none .nil (.node none .nil (.node none .nil (.node none (.node none (.node none .nil (.node (some x272) .nil .nil)) .nil) .nil)))))) m466)) m719))
def s737 : St := ⟨m736, 10642, 0⟩
theorem t728 : PC (evO badP allP Ot A 1000000 193) 1000000 k727 f726 s721 .normal f733 s737 := fun K => by kernel_rfl
def k738 : ACode := .seq (
.seq (
.draw [⟨0, ⟨some 30, .q (.load false 1 (.t 1)), none, 0⟩⟩,
⟨1, ⟨some 31, .q (.nilck (.t 30)), none, 1⟩⟩,
⟨2, ⟨some 32, .q (.faddr 1 (.t 31)), none, 3⟩⟩,
⟨3, ⟨some 33, .q (.load false 1 (.t 32)), none, 7⟩⟩,
⟨4, ⟨some 34, .q (.load false 1 (.t 3)), none, 0⟩⟩,
⟨5, ⟨some 35, .q (.len .str (.t 34)), none, 16⟩⟩,
⟨6, ⟨some 36, .e (.callf 202 [(.t 33), (.t 35)]), none, 63⟩⟩,
⟨7, ⟨some 37, .q (.un .not (.t 36)), none, 127⟩⟩]) (
.cond (.t 37) (
.seq (
.region [Q 2 (.mov (ci 3))]) (
.ret)) (
.skip))) (
.seq (
.draw [⟨0, ⟨some 38, .q (.mkfn (.func 203) 203 [] [(.t 1), (.t 3)]), none, 0⟩⟩,
⟨1, ⟨some 39, .q (.load false 1 (.t 1)), none, 0⟩⟩,
⟨2, ⟨some 40, .q (.nilck (.t 39)), none, 2⟩⟩,
⟨3, ⟨some 41, .q (.faddr 1 (.t 40)), none, 6⟩⟩,
⟨4, ⟨some 42, .q (.load false 1 (.t 41)), none, 14⟩⟩,
⟨5, ⟨some 43, .q (.mkfn (.func 205) 205 [(.t 42)] []), none, 30⟩⟩,
⟨6, ⟨some 44, .q (.mkfn (.func 206) 206 [] [(.t 1)]), none, 0⟩⟩,
⟨7, ⟨some 45, .q (.load false 1 (.t 1)), none, 0⟩⟩,
⟨8, ⟨some 46, .q (.mkfn (.func 208) 208 [(.t 45)] []), none, 128⟩⟩,
⟨9, ⟨some 47, .m (.bslice 84 1 4 [dc (.nilf), dc (.nilf), dc (.nilf), dc (.nilf)] [(0, 1, (.t 38)), (1, 1, (.t 43)), (2, 1, (.t 44)), (3, 1, (.t 46))]), none, 511⟩⟩,
⟨10, ⟨some 4, .q (.mov (.t 47)), none, 1023⟩⟩]) (
.seq (
.seq (
.region [Q 48 (.mov (.t 4)),
Q 49 (.len .sl (.t 48)),
Q 50 (.mov (ci 0))]) (
.block 1 (
.loop (
.seq (
.region [Q 51 (.bin .lss .scalar (.t 50) (.t 49))]) (
.seq (
.cond (.t 51) (
.skip) (
.exit 1)) (
.seq (
.block 2 (
.seq (
.region [Q 52 (.iaddr 1 none (.t 48) (.t 50)),
Q 53 (.load false 1 (.t 52)),
Q 6 (.mov (.t 53))]) (
.seq (
.region [Q 54 (.mov (.t 6)),
E 55 (.callv (.t 54) []),
Q 7 (.mov (.t 55))]) (
.seq (
.region [Q 56 (.mov (.t 7)),
Q 57 (.bin .neq .scalar (.t 56) (ci 0))]) (
.cond (.t 57) (
.seq (
.region [Q 58 (.load false 1 (.t 1)),
Q 59 (.nilck (.t 58)),
Q 60 (.faddr 4 (.t 59)),
⟨none, .e (.store 1 (.t 60) (cb true)), none, 0⟩]) (
.seq (
.region [Q 61 (.mov (.t 7)),
Q 2 (.mov (.t 61))]) (
.ret))) (
.skip)))))) (
.region [Q 62 (.bin .add .scalar (.t 50) (ci 1)),
Q 50 (.mov (.t 62))]))))))) (
.seq (
.region [Q 63 (.load false 1 (.t 1)),
E 64 (.callf 209 [(.t 63)])]) (
.seq (
.region [Q 2 (.mov (ci 0))]) (
.ret)))))
def m740 : PM AVal := (.node (some (.v (.one (.s (.d (.int .i64 (.ofNat 0))))))) (.node (some (.v (.one (.s (.ptr 240 0 4))))) (.node (some (.v (.one (.s (.ptr 240 0 0))))) (.node (some (.v (.one (.s (.ptr 240 0 0))))) .nil .nil) .nil) (.node (some (.v (.one (.s (.sl 10675 0 0 4 true))))) .nil .nil)) (.node (some (.v (.one (.s (.d (.bool false)))))) (.node (some (.v (.one (.s (.ptr 240 0 0))))) .nil .nil) (.node (some (.v (.one (.s (.d (.int .i64 (.ofNat 0))))))) .nil .nil)))
def m741 : PM AVal := (.node (some (.v (.one (.s (.d (.bool false)))))) (.node (some (.v (.one (.s (.ptr 240 0 0))))) (.node (some (.v (.one (.s (.d (.int .i64 (.ofNat 42))))))) .nil .nil) (.node (some (.v (.one (.s (.d (.bool false)))))) .nil .nil)) (.node (some (.v (.one (.s (.ptr 240 0 3))))) (.node (some (.v (.one e49))) .nil .nil) .nil))
def m742 : PM AVal := (.node (some (.v (.one (.s (.ptr 240 0 0))))) (.node (some (.v (.one (.s (.d (.bool false)))))) (.node (some (.v (.one (.s (.ptr 2 0 0))))) .nil .nil) (.node (some (.v (.one (.s (.d (.int .i64 (.ofNat 4))))))) .nil .nil)) (.node (some (.v (.one (.s (.ptr 240 0 0))))) (.node (some (.v (.one (.s (.ptr 240 0 1))))) .nil .nil) (.node (some (.v (.one (.s (.d (.bool false)))))) .nil .nil)))
def m743 : PM AVal := (.node none m742 (.node (some (.v (.one (.s (.ptr 240 0 0))))) (.node (some (.v (.one (.s (.mp 239))))) (.node (some (.v (.one (.s (.d (.bool false)))))) .nil .nil) (.node (some (.v (.one e51))) .nil .nil)) (.node (some (.v (.one (.s (.d h255))))) (.node (some (.v (.one (.s (.ptr 240 0 0))))) .nil .nil) .nil)))
def m744 : PM AVal := (.node (some (.v (.one (.s (.d (.bool false)))))) (.node (some (.v (.one (.s (.d (.bool false)))))) (.node (some (.v (.one (.s (.ptr 240 0 1))))) (.node (some (.tup [])) .nil .nil) .nil) (.node (some (.v (.one (.s (.sl 10675 0 0 4 true))))) .nil .nil)) (.node (some (.v (.one (.s (.ptr 240 0 0))))) (.node (some (.v (.one (.s (.ptr 240 0 0))))) .nil .nil) (.node (some (.v (.one (.s (.d (.int .i64 (.ofNat 0))))))) .nil .nil)))
def m745 : PM AVal := (.node (some (.v (.one (.s (.d (.bool false)))))) (.node (some (.v (.one (.s (.ptr 240 0 3))))) (.node (some (.v (.one (.s (.d (.bool true)))))) .nil .nil) (.node (some (.v (.one (.s (.ptr 10675 0 3))))) .nil .nil)) (.node (some (.v (.one (.s (.mp 239))))) (.node (some (.v (.one e264))) .nil .nil) .nil))
def m746 : PM AVal := (.node (some (.v (.one (.s (.d (.bool true)))))) (.node (some (.v (.one (.s (.ptr 240 0 0))))) (.node (some (.v (.one (.s (.d h255))))) .nil .nil) (.node (some (.v (.one (.s (.d (.int .i64 (.ofNat 4))))))) .nil .nil)) (.node (some (.v (.one (.s (.ptr 240 0 0))))) (.node (some (.v (.one (.s (.ptr 2 0 0))))) .nil .nil) .nil))
def m747 : PM AVal := (.node (some (.v (.one (.s (.ptr 240 0 0))))) (.node (some (.v (.one (.s (.d (.int .i64 (.ofNat 4))))))) (.node (some (.v (.one e263))) .nil .nil) (.node (some (.v (.one e51))) .nil .nil)) (.node (some (.v (.one (.s (.ptr 240 0 0))))) (.node (some (.v (.one e51))) .nil .nil) (.node (some (.v (.one (.s (.d (.int .i64 (.ofNat 4))))))) .nil .nil)))
def m748 : PM AVal := (.node (some (.v (.one (.s (.ptr 240 0 0))))) (.node (some (.v (.one (.s (.ptr 10622 0 0))))) (.node (some (.v (.one (.s (.ptr 10629 0 0))))) m740 m741) m743) (.node (some (.v (.one (.s (.d (.int .i64 (.ofNat 0))))))) (.node (some (.v (.one (.s (.sl 10675 0 0 4 true))))) m744 m745) (.node (some (.v (.one e51))) m746 m747)))
def f749 : Fr := ⟨m748, [], none⟩
def m750 : PM AObj := (.node none (.node none (.node none m319 (.node none .nil (.node none .nil (.node none (.node none .nil (.node none (.node none .nil (.node none (.node (some x18) .nil .nil) .nil)) .nil)) .nil)))) m321) (.node none (.node none m322 m326) (.node none (.node none (.node none (.node none .nil (.node (some x60) .nil .nil)) (.node (some x61) .nil .nil)) .nil) m329)))
def m751 : PM AObj := (.node (some x305) (.node none (.node none m310 (.node none m312 m313)) (.node none (.node none m315 (.node none (.node (some x41) (.node (some x41) .nil .nil) .nil) (.node none .nil (.node none .nil (.node none .nil (.node none (.node none (.node none .nil (.node (some x272) .nil .nil)) .nil) .nil)))))) m318)) (.node none m750 (.node none (.node none (.node none m331 m334) m336) (.node (some x41) m338 m371))))
def s752 : St := ⟨(.node (some x247) (.node (some x248) (.node none m259 (.node none (.node (some x18) (.node none m261 m262) m266) (.node (some x32) (.node none m268 m270) m273))) (.node none m286 m304)) m751), 11069, 0⟩
theorem t739 : PC (evO badP allP Ot A 1000000 193) 1000000 k738 f733 s737 .ret f749 s752 := fun K => by kernel_rfl
def k753 : ACode := .seq k727 k738
theorem t754 : PC (evO badP allP Ot A 1000000 193) 1000000 k753 f726 s721 .ret f749 s752 := PC.seq t728 t739
def k755 : ACode := .seq k722 k753
theorem t756 : PC (evO badP allP Ot A 1000000 193) 1000000 k755 f717 s721 .ret f749 s752 := PC.seq t723 t754
def k757 : ACode := .seq k715 k755
theorem t758 : PC (evO badP allP Ot A 1000000 193) 1000000 k757 f554 s522 .ret f749 s752 := PC.seq t716 t756
theorem cc759k : a138.code = k757 := by kernel_rfl
theorem cc759 : PKO Ot A 1000000 194 138 g591 s522 (.v (.one (.s (.d (.int .i64 (.ofNat 0)))))) s752 := PKO.mk (af := a138) (K := k757) (f := f554) (s0 := s522) (by kernel_rfl) (by kernel_rfl) cc759k (by kernel_rfl) (by kernel_rfl) t758 (fun K PN => by kernel_rfl)
def m760 : PM AVal := (.node none (.node (some (.v (.one (.s (.ptr 6646 0 0))))) (.node (some (.v (.one (.s (.d (.int .i64 (.ofNat 0))))))) (.node (some (.v (.one (.s (.ptr 794 0 0))))) .nil .nil) .nil) (.node (some (.v (.one (.s (.d (.int .i64 (.ofNat 0))))))) .nil .nil)) (.node (some (.v (.one e437))) (.node (some (.v (.one (.s (.ptr 794 0 1))))) (.node (some (.v (.one (.s (.d (.int .i64 (.ofNat 0))))))) .nil .nil) .nil) .nil))
def m761 : PM AVal := (.node (some (.v (.one (.s (.ptr 861 0 0))))) m760 (.node none (.node none (.node (some (.v (.one (.s (.ptr 794 0 0))))) (.node (some (.v (.one (.s (.ptr 794 0 0))))) .nil .nil) .nil) (.node (some (.v (.one (.s (.d (.bool false)))))) .nil .nil)) (.node (some (.v u452)) (.node (some (.v u452)) .nil .nil) .nil)))
def f762 : Fr := ⟨(.node (some (.v (.one (.s (.ptr 794 0 0))))) m761 (.node (some (.v (.one e437))) m710 m711)), [], none⟩
theorem o763 : PX (evO badP allP Ot A 1000000 194) [⟨some 35, .e (.callf 138 [(.t 34)]), none, 0⟩] f712 s522 f762 s752 := PX.callO (by kernel_rfl) (by kernel_rfl) cc759 (by kernel_rfl)
def r764 : List AOper := [⟨some 9, .q (.mov (.t 35)), none, 0⟩]
def m765 : PM AVal := (.node none (.node (some (.v (.one (.s (.d (.int .i64 (.ofNat 0))))))) (.node (some (.v (.one (.s (.ptr 794 0 0))))) (.node (some (.v (.one (.s (.ptr 794 0 0))))) .nil .nil) .nil) (.node (some (.v (.one (.s (.d (.bool false)))))) .nil .nil)) (.node (some (.v u452)) (.node (some (.v u452)) .nil .nil) .nil))
def f766 : Fr := ⟨(.node (some (.v (.one (.s (.ptr 794 0 0))))) (.node (some (.v (.one (.s (.ptr 861 0 0))))) m760 m765) (.node (some (.v (.one e437))) m710 m711)), [], none⟩
theorem o767 : PX (evO badP allP Ot A 1000000 194) r764 f762 s752 f766 s752 := fun r K => by kernel_rfl
def r768 : List AOper := r764 ++ []
theorem o769 : PO (evO badP allP Ot A 1000000 194) r768 f762 s752 .normal f766 s752 := PO.app o767 PO.nil
def r770 : List AOper := r714 ++ r768
theorem o771 : PO (evO badP allP Ot A 1000000 194) r770 f712 s522 .normal f766 s752 := PO.app o763 o769
def r772 : List AOper := r707 ++ r770
theorem o773 : PO (evO badP allP Ot A 1000000 194) r772 f706 s522 .normal f766 s752 := PO.app o713 o771
def k774 : ACode := .region r772
theorem t775 : PC (evO badP allP Ot A 1000000 194) 1000000 k774 f706 s522 .normal f766 s752 := PC.region o773
def k776 : ACode := .seq (
.region [Q 36 (.mov (.t 9))]) (
.block 0 (
.seq (
.region [Q 42 (.bin .eql .scalar (.t 36) (ci 0)),
Q 41 (.mov (.t 42))]) (
.cond (.t 41) (
.seq (
.region [Q 43 (.mov (.t 0)),
Q 44 (.mov (.t 0)),
Q 45 (.load true 2 (.t 7)),
Q 46 (.mov (.t 1)),
Q 47 (.nilck (.t 43)),
Q 48 (.faddr 3 (.t 47)),
⟨none, .e (.store 2 (.t 48) (.t 45)), none, 0⟩,
Q 49 (.nilck (.t 44)),
Q 50 (.faddr 2 (.t 49)),
⟨none, .e (.store 1 (.t 50) (.t 46)), none, 0⟩]) (
.seq (
.region [Q 6 (.mov (ci 0))]) (
.ret))) (
.seq (
.region [Q 52 (.bin .eql .scalar (.t 36) (ci 3)),
Q 51 (.mov (.t 52))]) (
.cond (.t 51) (
.seq (
.region [Q 53 (.mov (.t 0)),
Q 54 (.nilck (.t 53)),
Q 55 (.faddr 0 (.t 54)),
Q 56 (.load false 1 (.t 55)),
E 57 (.callf 209 [(.t 56)])]) (
.seq (
.region [Q 58 (.mov (.t 9)),
Q 6 (.mov (.t 58))]) (
.ret))) (
.seq (
.region [Q 37 (.mov (.t 0)),
Q 38 (.nilck (.t 37)),
Q 39 (.faddr 5 (.t 38)),
⟨none, .e (.store 1 (.t 39) (cb true)), none, 0⟩]) (
.seq (
.region [Q 40 (.mov (.t 9)),
Q 6 (.mov (.t 40))]) (
.ret))))))))
def m778 : PM AVal := (.node none (.node (some (.v (.one (.s (.ptr 6646 0 0))))) (.node (some (.v (.one (.s (.d (.int .i64 (.ofNat 0))))))) (.node (some (.v (.one (.s (.ptr 794 0 0))))) .nil .nil) (.node (some (.v (.one (.s (.ptr 794 0 0))))) .nil .nil)) (.node (some (.v (.one (.s (.d (.int .i64 (.ofNat 0))))))) .nil .nil)) (.node (some (.v (.one e437))) (.node (some (.v (.one (.s (.ptr 794 0 1))))) (.node (some (.v (.one (.s (.d (.int .i64 (.ofNat 0))))))) .nil .nil) .nil) (.node none (.node (some (.v (.one (.s (.ptr 794 0 0))))) .nil .nil) .nil)))
def m779 : PM AVal := (.node (some (.v (.one (.s (.d (.int .i64 (.ofNat 0))))))) (.node (some (.v (.one (.s (.ptr 794 0 0))))) (.node (some (.v (.one (.s (.ptr 794 0 0))))) .nil .nil) (.node (some (.v (.one (.s (.ptr 794 0 0))))) .nil .nil)) (.node (some (.v (.one (.s (.d (.bool false)))))) (.node (some (.v (.one (.s (.d (.bool true)))))) .nil .nil) .nil))
def m780 : PM AVal := (.node none (.node (some (.v (.one (.s (.d (.int .i64 (.ofNat 0))))))) (.node (some (.v (.one (.s (.d (.bool true)))))) (.node (some (.v (.one (.s (.ptr 794 0 0))))) .nil .nil) (.node (some (.v (.one (.s (.ptr 794 0 3))))) .nil .nil)) (.node (some (.v (.one (.s (.d (.int .i64 (.ofNat 0))))))) .nil .nil)) (.node (some (.tup [u452, (.one (.s (.d (.int .i64 (.ofNat 0)))))])) (.node (some (.v (.one (.s (.ptr 442 0 0))))) (.node (some (.v (.one (.s (.d (.int .i64 (.ofNat 0))))))) .nil .nil) .nil) (.node none (.node (some (.v (.one (.s (.ptr 794 0 0))))) .nil .nil) .nil)))
def m781 : PM AVal := (.node (some (.tup [u452, (.one (.s (.d (.int .i64 (.ofNat 0)))))])) (.node (some (.v (.one (.s (.ptr 794 0 0))))) (.node (some (.v (.one (.s (.ptr 240 0 0))))) .nil .nil) (.node (some (.v (.one (.s (.ptr 794 0 2))))) .nil .nil)) (.node none (.node (some (.v (.one (.s (.d (.bool true)))))) .nil .nil) .nil))
def m782 : PM AVal := (.node (some (.v (.one (.s (.ptr 794 0 0))))) (.node (some (.v (.one (.s (.ptr 861 0 0))))) m778 (.node none m779 (.node (some (.v u452)) (.node (some (.v u452)) .nil .nil) (.node none (.node (some (.v u452)) .nil .nil) .nil)))) (.node (some (.v (.one e437))) m780 (.node (some (.v (.one (.s (.d (.int .i64 (.ofNat 0))))))) m781 (.node (some (.v (.one (.s (.d (.int .i64 (.ofNat 0))))))) (.node (some (.v (.one (.s (.d (.str [0, 1, 2])))))) .nil .nil) (.node none (.node (some (.v (.one (.s (.ptr 861 0 0))))) .nil .nil) .nil)))))
def f783 : Fr := ⟨m782, [], none⟩
theorem t777 : PC (evO badP allP Ot A 1000000 194) 1000000 k776 f766 s752 .ret f783 s373 := fun K => by kernel_rfl
def k784 : ACode := .seq k774 k776
theorem t785 : PC (evO badP allP Ot A 1000000 194) 1000000 k784 f706 s522 .ret f783 s373 := PC.seq t775 t777
def k786 : ACode := .seq k702 k784
theorem t787 : PC (evO badP allP Ot A 1000000 194) 1000000 k786 f510 s522 .ret f783 s373 := PC.seq t703 t785
def k788 : ACode := .seq k700 k786
theorem t789 : PC (evO badP allP Ot A 1000000 194) 1000000 k788 f474 s477 .ret f783 s373 := PC.seq t701 t787
def k790 : ACode := .seq k485 k788
theorem t791 : PC (evO badP allP Ot A 1000000 194) 1000000 k790 f447 s429 .ret f783 s373 := PC.seq t486 t789
def k792 : ACode := .seq k444 k790
theorem t793 : PC (evO badP allP Ot A 1000000 194) 1000000 k792 f446 s429 .ret f783 s373 := PC.seq t445 t791
def g794 : List Vl := [(.one (.s (.ptr 794 0 0))), (.one (.s (.ptr 861 0 0))), (.one e437)]
theorem cc795k : a188.code = k792 := by kernel_rfl
theorem cc795 : PKO Ot A 1000000 195 188 g794 s429 (.v (.one (.s (.d (.int .i64 (.ofNat 0)))))) s373 := PKO.mk (af := a188) (K := k792) (f := f446) (s0 := s429) (by kernel_rfl) (by kernel_rfl) cc795k (by kernel_rfl) (by kernel_rfl) t793 (fun K PN => by kernel_rfl)
def m796 : PM AVal := (.node (some (.v (.one (.s (.d (.int .i64 (.ofNat 0))))))) (.node (some (.v (.one (.s (.ptr 938 0 0))))) (.node (some (.v (.one (.s (.ptr 794 0 2))))) (.node (some (.v (.one (.s (.d (.int .i64 (.ofNat 0))))))) .nil .nil) .nil) .nil) (.node (some (.v (.one (.s (.d (.bool false)))))) (.node (some (.v u204)) .nil .nil) (.node (some (.v (.one (.s (.d (.bool false)))))) .nil .nil)))
def f797 : Fr := ⟨(.node (some (.v (.one (.s (.ptr 794 0 0))))) (.node (some (.v u204)) m438 m439) (.node (some (.v (.one (.s (.ptr 859 0 0))))) m796 m440)), [], none⟩
theorem o798 : PX (evO badP allP Ot A 1000000 195) [⟨some 32, .e (.callf 188 [(.t 29), (.t 30), (.t 31)]), none, 0⟩] f441 s429 f797 s373 := PX.callO (by kernel_rfl) (by kernel_rfl) cc795 (by kernel_rfl)
def r799 : List AOper := [⟨some 4, .q (.mov (.t 32)), none, 0⟩]
theorem o800 : PX (evO badP allP Ot A 1000000 195) r799 f797 s373 f797 s373 := fun r K => by kernel_rfl
def r801 : List AOper := r799 ++ []
theorem o802 : PO (evO badP allP Ot A 1000000 195) r801 f797 s373 .normal f797 s373 := PO.app o800 PO.nil
def r803 : List AOper := r443 ++ r801
theorem o804 : PO (evO badP allP Ot A 1000000 195) r803 f441 s429 .normal f797 s373 := PO.app o798 o802
def r805 : List AOper := r436 ++ r803
theorem o806 : PO (evO badP allP Ot A 1000000 195) r805 f435 s429 .normal f797 s373 := PO.app o442 o804
def k807 : ACode := .region r805
theorem t808 : PC (evO badP allP Ot A 1000000 195) 1000000 k807 f435 s429 .normal f797 s373 := PC.region o806
def k809 : ACode := .ret
theorem t810 : PC (evO badP allP Ot A 1000000 195) 1000000 k809 f797 s373 .ret f797 s373 := fun K => by kernel_rfl
def k811 : ACode := .seq k807 k809
theorem t812 : PC (evO badP allP Ot A 1000000 195) 1000000 k811 f435 s429 .ret f797 s373 := PC.seq t808 t810
def k813 : ACode := .seq k430 k811
theorem t814 : PC (evO badP allP Ot A 1000000 195) 1000000 k813 f426 s429 .ret f797 s373 := PC.seq t431 t812
def k815 : ACode := .seq k421 k813
theorem t816 : PC (evO badP allP Ot A 1000000 195) 1000000 k815 f404 s420 .ret f797 s373 := PC.seq t422 t814
def k817 : ACode := .seq k399 k815
theorem t818 : PC (evO badP allP Ot A 1000000 195) 1000000 k817 f392 s398 .ret f797 s373 := PC.seq t400 t816
def k819 : ACode := .seq k388 k817
theorem t820 : PC (evO badP allP Ot A 1000000 195) 1000000 k819 f387 s383 .ret f797 s373 := PC.seq t389 t818
def k821 : ACode := .seq k384 k819
theorem t822 : PC (evO badP allP Ot A 1000000 195) 1000000 k821 f379 s383 .ret f797 s373 := PC.seq t385 t820
def k823 : ACode := .seq k376 k821
theorem t824 : PC (evO badP allP Ot A 1000000 195) 1000000 k823 f378 s357 .ret f797 s373 := PC.seq t377 t822
def g825 : List Vl := [(.one (.s (.ptr 794 0 0))), u204]
theorem cc826k : a171.code = k823 := by kernel_rfl
theorem cc826 : PKO Ot A 1000000 196 171 g825 s357 (.v (.one (.s (.d (.int .i64 (.ofNat 0)))))) s373 := PKO.mk (af := a171) (K := k823) (f := f378) (s0 := s357) (by kernel_rfl) (by kernel_rfl) cc826k (by kernel_rfl) (by kernel_rfl) t824 (fun K PN => by kernel_rfl)
theorem d827 : PD (evO badP allP Ot A 1000000 196) 852 q356 [⟨5, ⟨some 15, .e (.callf 171 [(.t 13), (.t 14)]), none, 31⟩⟩] w366 w374 := PD.callO (by kernel_rfl) (by kernel_rfl) (by kernel_rfl) cc826 (by kernel_rfl) (by kernel_rfl)
def m828 : PM AVal := (.node (some (.v u204)) (.node (some (.v (.one (.s (.ptr 851 0 0))))) (.node (some (.v (.one (.s (.ptr 830 0 0))))) (.node (some (.v (.one (.s (.d (.int .i64 (.ofNat 0))))))) .nil .nil) .nil) (.node (some (.v (.one (.s (.ptr 830 0 0))))) .nil .nil)) (.node (some (.v (.one (.s (.d (.int .i64 (.ofNat 0))))))) (.node (some (.v (.one (.s (.d (.bool false)))))) .nil .nil) (.node (some (.v (.one (.s (.ptr 794 0 0))))) .nil .nil)))
def f829 : Fr := ⟨(.node (some (.v (.one (.s (.ptr 830 0 0))))) m828 m360), [], none⟩
def w830 : Dr := ⟨f829, s373, [], [⟨4, 0, p363, .load true 3 (.t 3), (.v u204)⟩, ⟨3, 7, p365, .load false 1 (.t 12), (.v (.one (.s (.ptr 794 0 0))))⟩]⟩
def q831 : List DOp := [⟨6, ⟨some 5, .q (.mov (.t 15)), none, 63⟩⟩]
theorem d832 : PD (evO badP allP Ot A 1000000 196) 852 q356 q831 w374 w830 := fun r K => by kernel_rfl
theorem d833 : PR (evO badP allP Ot A 1000000 196) 852 q356 [] w830 f829 s373 := fun K => by kernel_rfl
def q834 : List DOp := q831 ++ []
theorem d835 : PR (evO badP allP Ot A 1000000 196) 852 q356 q834 w374 f829 s373 := PR.app d832 d833
def q836 : List DOp := q375 ++ q834
theorem d837 : PR (evO badP allP Ot A 1000000 196) 852 q356 q836 w366 f829 s373 := PR.app d827 d835
def q838 : List DOp := q367 ++ q836
theorem d839 : PR (evO badP allP Ot A 1000000 196) 852 q356 q838 w358 f829 s373 := PR.app d368 d837
def k840 : ACode := .draw q356
theorem t841 : PC (evO badP allP Ot A 1000000 196) 1000000 k840 f355 s351 .normal f829 s373 := PC.drawN (by kernel_rfl) (by kernel_rfl) (by kernel_rfl) d839
def k842 : ACode := .seq (
.seq (
.region [Q 16 (.mov (.t 5))]) (
.block 0 (
.seq (
.region [Q 18 (.bin .eql .scalar (.t 16) (ci 0)),
Q 17 (.mov (.t 18))]) (
.cond (.t 17) (
.seq (
.region [Q 19 (.mov (.t 0)),
Q 20 (.nilck (.t 19)),
Q 21 (.faddr 3 (.t 20)),
Q 22 (.load false 1 (.t 21)),
Q 23 (.bin .add .scalar (.t 22) (ci 1)),
Q 24 (.nilck (.t 19)),
Q 25 (.faddr 3 (.t 24)),
⟨none, .e (.store 1 (.t 25) (.t 23)), none, 0⟩]) (
.seq (
.region [Q 26 (.mov (.t 5)),
Q 4 (.mov (.t 26))]) (
.ret))) (
.seq (
.seq (
.region [Q 28 (.bin .eql .scalar (.t 16) (ci 7)),
Q 27 (.mov (.t 28))]) (
.cond (.t 27) (
.skip) (
.seq (
.region [Q 29 (.bin .eql .scalar (.t 16) (ci 12)),
Q 27 (.mov (.t 29))]) (
.cond (.t 27) (
.skip) (
.seq (
.region [Q 30 (.bin .eql .scalar (.t 16) (ci 1)),
Q 27 (.mov (.t 30))]) (
.cond (.t 27) (
.skip) (
.seq (
.region [Q 31 (.bin .eql .scalar (.t 16) (ci 11)),
Q 27 (.mov (.t 31))]) (
.cond (.t 27) (
.skip) (
.seq (
.region [Q 32 (.bin .eql .scalar (.t 16) (ci 18)),
Q 27 (.mov (.t 32))]) (
.cond (.t 27) (
.skip) (
.seq (
.region [Q 33 (.bin .eql .scalar (.t 16) (ci 10)),
Q 27 (.mov (.t 33))]) (
.cond (.t 27) (
.skip) (
.region [Q 34 (.bin .eql .scalar (.t 16) (ci 19)),
Q 27 (.mov (.t 34))]))))))))))))) (
.cond (.t 27) (
.seq (
.region [Q 35 (.mov (.t 5)),
Q 4 (.mov (.t 35))]) (
.ret)) (
.skip))))))) (
.seq (
.region [Q 36 (.mov (.t 0)),
Q 37 (.nilck (.t 36)),
Q 38 (.faddr 2 (.t 37)),
⟨none, .e (.store 1 (.t 38) (cb true)), none, 0⟩]) (
.seq (
.region [Q 4 (.mov (ci 17))]) (
.ret)))
def m844 : PM AVal := (.node (some (.v (.one (.s (.ptr 851 0 0))))) (.node (some (.v (.one (.s (.ptr 830 0 0))))) (.node (some (.v (.one (.s (.d (.int .i64 (.ofNat 0))))))) .nil .nil) (.node (some (.v (.one (.s (.d (.int .i64 (.ofNat 1))))))) .nil .nil)) (.node (some (.v (.one (.s (.ptr 830 0 0))))) (.node (some (.v (.one (.s (.ptr 830 0 0))))) .nil .nil) .nil))
def m845 : PM AVal := (.node (some (.v (.one (.s (.d (.int .i64 (.ofNat 0))))))) (.node (some (.v (.one (.s (.d (.bool false)))))) (.node (some (.v (.one (.s (.d (.bool true)))))) .nil .nil) (.node (some (.v (.one (.s (.ptr 830 0 3))))) .nil .nil)) (.node (some (.v (.one (.s (.ptr 794 0 0))))) (.node (some (.v (.one (.s (.ptr 830 0 3))))) .nil .nil) .nil))
def m846 : PM AVal := (.node (some (.v (.one (.s (.d (.int .i64 (.ofNat 0))))))) (.node (some (.v (.one (.s (.ptr 830 0 2))))) (.node (some (.v (.one (.s (.d (.int .i64 (.ofNat 0))))))) .nil .nil) (.node (some (.v (.one (.s (.ptr 830 0 0))))) .nil .nil)) (.node (some (.v (.one (.s (.ptr 830 0 0))))) (.node (some (.v (.one (.s (.ptr 830 0 0))))) .nil .nil) .nil))
def m847 : PM AVal := (.node (some (.v (.one (.s (.ptr 830 0 0))))) (.node (some (.v (.one (.s (.ptr 830 0 0))))) (.node (some (.v (.one (.s (.d (.bool true)))))) .nil .nil) (.node (some (.v (.one (.s (.d (.int .i64 (.ofNat 0))))))) .nil .nil)) (.node (some (.v u204)) (.node (some (.v (.one (.s (.d (.int .i64 (.ofNat 0))))))) .nil .nil) .nil))
def f848 : Fr := ⟨(.node (some (.v (.one (.s (.ptr 830 0 0))))) (.node (some (.v u204)) m844 m845) (.node none m846 m847)), [], none⟩
theorem t843 : PC (evO badP allP Ot A 1000000 196) 1000000 k842 f829 s373 .ret f848 s342 := fun K => by kernel_rfl
def k849 : ACode := .seq k840 k842
theorem t850 : PC (evO badP allP Ot A 1000000 196) 1000000 k849 f355 s351 .ret f848 s342 := PC.seq t841 t843
def k851 : ACode := .seq k352 k849
theorem t852 : PC (evO badP allP Ot A 1000000 196) 1000000 k851 f348 s351 .ret f848 s342 := PC.seq t353 t850
def k853 : ACode := .seq k345 k851
theorem t854 : PC (evO badP allP Ot A 1000000 196) 1000000 k853 f347 s224 .ret f848 s342 := PC.seq t346 t852
def g855 : List Vl := [(.one (.s (.ptr 830 0 0))), u204]
theorem cc856k : a122.code = k853 := by kernel_rfl
theorem cc856 : PKO Ot A 1000000 197 122 g855 s224 (.v (.one (.s (.d (.int .i64 (.ofNat 0)))))) s342 := PKO.mk (af := a122) (K := k853) (f := f347) (s0 := s224) (by kernel_rfl) (by kernel_rfl) cc856k (by kernel_rfl) (by kernel_rfl) t854 (fun K PN => by kernel_rfl)
theorem d857 : PD (evO badP allP Ot A 1000000 197) 844 q223 [⟨4, ⟨some 37, .e (.callf 122 [(.t 35), (.t 36)]), none, 12⟩⟩] w234 w343 := PD.callO (by kernel_rfl) (by kernel_rfl) (by kernel_rfl) cc856 (by kernel_rfl) (by kernel_rfl)
def u858 : Vl := (.agg [(.s (.d (.int .i64 (.ofNat 1)))), (.s (.d (.int .i64 (.ofNat 0))))])
def m859 : PM AVal := (.node (some (.v (.one (.s (.d (.int .i64 (.ofNat 0))))))) (.node (some (.v u204)) (.node (some (.v (.one (.s (.ptr 834 0 0))))) (.node (some (.v (.one (.s (.d (.int .i64 (.ofNat 1))))))) .nil .nil) .nil) .nil) (.node (some (.v (.one (.s (.d (.bool false)))))) (.node (some (.v (.one (.s (.d (.bool false)))))) (.node (some (.v u858)) .nil .nil) .nil) .nil))
def m860 : PM AVal := (.node (some (.v (.one (.s (.ptr 830 0 0))))) m238 (.node none (.node (some (.v (.one (.s (.ptr 833 0 0))))) (.node (some (.v (.one (.s (.d h141))))) .nil .nil) (.node (some (.v (.one (.s (.d (.bool false)))))) (.node (some (.v (.one (.s (.ptr 830 0 0))))) (.node (some (.v u204)) .nil .nil) .nil) .nil)) m859))
def f861 : Fr := ⟨m860, [], none⟩
def x862 : AObj := (.row 137 2 0 [(.s (.d (.int .i64 (.ofNat 1)))), (.s (.d (.int .i64 (.ofNat 0))))])
def m863 : PM AObj := (.node none (.node none .nil (.node none (.node none (.node none (.node none .nil (.node none (.node (some x275) .nil .nil) .nil)) .nil) .nil) (.node (some x276) .nil .nil))) (.node none (.node none .nil (.node (some x862) .nil .nil)) (.node none .nil (.node none (.node none (.node none .nil (.node (some x18) .nil .nil)) .nil) .nil))))
def m864 : PM AObj := (.node none (.node none (.node none m863 (.node none (.node none (.node (some x18) .nil .nil) .nil) .nil)) m278) (.node none (.node (some x19) (.node (some x18) (.node (some x18) (.node none (.node (some x36) .nil (.node none (.node none .nil (.node none (.node (some x279) .nil .nil) .nil)) .nil)) .nil) .nil) (.node none (.node none .nil (.node (some x217) .nil .nil)) .nil)) m283) m285))
def s865 : St := ⟨(.node (some x247) (.node (some x248) (.node none m259 (.node none (.node (some x18) (.node none m261 m262) m266) (.node (some x32) (.node none m268 m270) m273))) (.node none m864 m304)) m341), 11069, 0⟩
def w866 : Dr := ⟨f861, s865, [], [⟨3, 0, p231, .load true 3 (.t 5), (.v u204)⟩, ⟨1, 1, p233, .load false 1 (.t 33), (.v (.one (.s (.d (.int .i64 (.ofNat 1))))))⟩]⟩
def q867 : List DOp := [⟨5, ⟨some 38, .q (.build [dc (.int .i64 0), dc (.int .i64 0)] [(0, 1, (.t 34)), (1, 1, (.t 37))]), none, 31⟩⟩,
⟨6, ⟨none, .e (.store 2 (.t 4) (.t 38)), none, 63⟩⟩]
theorem d868 : PD (evO badP allP Ot A 1000000 197) 844 q223 q867 w343 w866 := fun r K => by kernel_rfl
theorem d869 : PR (evO badP allP Ot A 1000000 197) 844 q223 [] w866 f861 s865 := fun K => by kernel_rfl
def q870 : List DOp := q867 ++ []
theorem d871 : PR (evO badP allP Ot A 1000000 197) 844 q223 q870 w343 f861 s865 := PR.app d868 d869
def q872 : List DOp := q344 ++ q870
theorem d873 : PR (evO badP allP Ot A 1000000 197) 844 q223 q872 w234 f861 s865 := PR.app d857 d871
def q874 : List DOp := q235 ++ q872
theorem d875 : PR (evO badP allP Ot A 1000000 197) 844 q223 q874 w225 f861 s865 := PR.app d236 d873
def k876 : ACode := .draw q223
theorem t877 : PC (evO badP allP Ot A 1000000 197) 1000000 k876 f215 s222 .normal f861 s865 := PC.drawN (by kernel_rfl) (by kernel_rfl) (by kernel_rfl) d875
theorem t878 : PC (evO badP allP Ot A 1000000 197) 1000000 k809 f861 s865 .ret f861 s865 := fun K => by kernel_rfl
def k879 : ACode := .seq k876 k809
theorem t880 : PC (evO badP allP Ot A 1000000 197) 1000000 k879 f215 s222 .ret f861 s865 := PC.seq t877 t878
def k881 : ACode := .seq k210 k879
theorem t882 : PC (evO badP allP Ot A 1000000 197) 1000000 k881 f206 s209 .ret f861 s865 := PC.seq t211 t880
def k883 : ACode := .seq k201 k881
theorem t884 : PC (evO badP allP Ot A 1000000 197) 1000000 k883 f198 s200 .ret f861 s865 := PC.seq t202 t882
def k885 : ACode := .seq k195 k883
theorem t886 : PC (evO badP allP Ot A 1000000 197) 1000000 k885 f197 s187 .ret f861 s865 := PC.seq t196 t884
def g887 : List Vl := [(.one (.s (.ptr 830 0 0))), (.one (.s (.d h141)))]
theorem cc888k : a70.code = k885 := by kernel_rfl
theorem cc888 : PKO Ot A 1000000 198 70 g887 s187 (.v u858) s865 := PKO.mk (af := a70) (K := k885) (f := f197) (s0 := s187) (by kernel_rfl) (by kernel_rfl) cc888k (by kernel_rfl) (by kernel_rfl) t886 (fun K PN => by kernel_rfl)
def m889 : PM AVal := (.node (some (.v (.one (.s (.d h106))))) (.node none m175 (.node (some (.v (.one (.s (.d (.bool true)))))) (.node (some (.v (.one (.s (.ptr 830 0 0))))) .nil (.node (some (.v u858)) .nil .nil)) (.node (some (.v (.one (.s (.d h141))))) (.node (some (.v (.one (.s (.ptr 830 0 1))))) .nil .nil) .nil))) m189)
def f890 : Fr := ⟨(.node (some (.v (.one (.s (.ptr 830 0 0))))) m889 (.node none m178 m190)), [], none⟩
theorem o891 : PX (evO badP allP Ot A 1000000 198) [⟨some 51, .e (.callf 70 [(.t 49), (.t 50)]), none, 0⟩] f192 s187 f890 s865 := PX.callO (by kernel_rfl) (by kernel_rfl) cc888 (by kernel_rfl)
def r892 : List AOper := [⟨none, .e (.store 2 (.t 9) (.t 51)), none, 0⟩]
def m893 : PM AObj := (.node none (.node none (.node none (.node none .nil (.node none (.node none .nil (.node none (.node (some x279) .nil .nil) .nil)) .nil)) (.node (some x18) .nil .nil)) (.node (some x46) (.node none (.node none (.node none .nil (.node none (.node (some x306) .nil .nil) .nil)) .nil) .nil) .nil)) (.node none (.node none .nil (.node (some x862) .nil .nil)) .nil))
def m894 : PM AObj := (.node none (.node none m893 (.node none .nil (.node (some x20) (.node none .nil (.node (some x207) .nil .nil)) (.node none (.node (some x40) .nil .nil) .nil)))) (.node none (.node none (.node none (.node none .nil (.node none (.node none (.node none .nil (.node none (.node (some x308) .nil .nil) .nil)) .nil) .nil)) (.node none .nil (.node (some x309) .nil .nil))) .nil) (.node none .nil (.node (some x47) .nil (.node (some x52) .nil .nil)))))
def m895 : PM AObj := (.node (some x305) (.node none (.node none m894 (.node none m312 m313)) (.node none (.node none m315 (.node none (.node (some x41) (.node (some x41) .nil .nil) .nil) (.node none .nil (.node none .nil (.node none .nil (.node none (.node none (.node none .nil (.node (some x272) .nil .nil)) .nil) .nil)))))) m318)) (.node none m330 (.node none (.node none (.node none m331 m334) m336) (.node (some x41) m338 m340))))
def s896 : St := ⟨(.node (some x247) (.node (some x248) (.node none m259 (.node none (.node (some x18) (.node none m261 m262) m266) (.node (some x32) (.node none m268 m270) m273))) (.node none m864 m304)) m895), 11069, 0⟩
theorem o897 : PX (evO badP allP Ot A 1000000 198) r892 f890 s865 f890 s896 := fun r K => by kernel_rfl
def r898 : List AOper := r892 ++ []
theorem o899 : PO (evO badP allP Ot A 1000000 198) r898 f890 s865 .normal f890 s896 := PO.app o897 PO.nil
def r900 : List AOper := r194 ++ r898
theorem o901 : PO (evO badP allP Ot A 1000000 198) r900 f192 s187 .normal f890 s896 := PO.app o891 o899
def r902 : List AOper := r188 ++ r900
theorem o903 : PO (evO badP allP Ot A 1000000 198) r902 f182 s187 .normal f890 s896 := PO.app o193 o901
def k904 : ACode := .region r902
theorem t905 : PC (evO badP allP Ot A 1000000 198) 1000000 k904 f182 s187 .normal f890 s896 := PC.region o903
def k906 : ACode := .seq k173 k904
theorem t907 : PC (evO badP allP Ot A 1000000 198) 1000000 k906 f172 s158 .normal f890 s896 := PC.seq t174 t905
def k908 : ACode := .region [Q 33 (.mov (.t 0)),
Q 34 (.nilck (.t 33)),
Q 35 (.faddr 1 (.t 34)),
⟨none, .e (.store 1 (.t 35) (cs [])), none, 0⟩]
def k909 : ACode := .cond (.t 38) k906 k908
theorem t910 : PC (evO badP allP Ot A 1000000 198) 1000000 k909 f172 s158 .normal f890 s896 := PC.condT (by kernel_rfl) t907
def k911 : ACode := .seq k168 k909
theorem t912 : PC (evO badP allP Ot A 1000000 198) 1000000 k911 f167 s158 .normal f890 s896 := PC.seq t169 t910
def k913 : ACode := .exit 0
def k914 : ACode := .cond (.t 36) k913 k911
theorem t915 : PC (evO badP allP Ot A 1000000 198) 1000000 k914 f167 s158 .normal f890 s896 := PC.condF (by kernel_rfl) t912
def k916 : ACode := .seq k163 k914
theorem t917 : PC (evO badP allP Ot A 1000000 198) 1000000 k916 f162 s158 .normal f890 s896 := PC.seq t164 t915
def k918 : ACode := .block 2 k916
theorem t919 : PC (evO badP allP Ot A 1000000 198) 1000000 k918 f162 s158 .normal f890 s896 := PC.block t917 rfl
def k920 : ACode := .seq k159 k918
theorem t921 : PC (evO badP allP Ot A 1000000 198) 1000000 k920 f154 s158 .normal f890 s896 := PC.seq t160 t919
def k922 : ACode := .seq (
.seq (
.region [Q 52 (.faddr 1 (.t 9)),
Q 53 (.load false 1 (.t 52)),
Q 54 (.bin .neq .scalar (.t 53) (ci 0))]) (
.cond (.t 54) (
.region [Q 55 (.mov (.t 0)),
Q 56 (.nilck (.t 55)),
Q 57 (.faddr 5 (.t 56)),
Q 58 (.load false 1 (.t 57)),
Q 59 (.bin .add .scalar (.t 58) (ci 1)),
Q 60 (.nilck (.t 55)),
Q 61 (.faddr 5 (.t 60)),
⟨none, .e (.store 1 (.t 61) (.t 59)), none, 0⟩]) (
.skip))) (
.region [Q 62 (.mov (.t 5)),
Q 63 (.load true 2 (.t 9)),
M 64 (.bslice 137 2 1 [dc (.int .i64 0), dc (.int .i64 0)] [(0, 2, (.t 63))]),
E 65 (.append 137 2 16 (.t 62) (.t 64)),
Q 5 (.mov (.t 65))])
def m924 : PM AVal := (.node (some (.v (.one (.s (.d (.int .i64 (.ofNat 29))))))) (.node (some (.v (.one (.s (.ptr 830 0 1))))) (.node (some (.v u150)) (.node (some (.v u858)) .nil .nil) .nil) (.node (some (.v (.one (.s (.ptr 830 0 0))))) .nil .nil)) (.node (some (.v (.one (.s (.ptr 830 0 0))))) (.node (some (.v (.one (.s (.d (.bool true)))))) .nil .nil) .nil))
def m925 : PM AVal := (.node (some (.v (.one (.s (.ptr 832 0 0))))) (.node (some (.v (.one (.s (.d h106))))) (.node none (.node (some (.v (.one (.s (.sl 11070 0 0 1 false))))) .nil .nil) .nil) (.node (some (.v (.one (.s (.ptr 830 0 0))))) .nil .nil)) (.node (some (.v (.one (.s (.d h106))))) (.node (some (.v (.one (.s (.ptr 830 0 0))))) .nil .nil) .nil))
def m926 : PM AVal := (.node (some (.v (.one (.s (.ptr 830 0 0))))) (.node (some y143) (.node (some (.v (.one (.s (.d (.bool false)))))) .nil .nil) (.node (some (.v (.one (.s (.d (.int .i64 (.ofNat 0))))))) .nil .nil)) (.node (some (.v (.one (.s (.d (.int .i64 (.ofNat 0))))))) (.node (some (.v (.one (.s (.d (.int .i64 (.ofNat 29))))))) .nil .nil) .nil))
def m927 : PM AVal := (.node (some (.v (.one (.s (.d h106))))) (.node none m924 (.node (some (.v (.one (.s (.d (.bool true)))))) (.node (some (.v (.one (.s (.ptr 830 0 0))))) .nil (.node (some (.v u858)) .nil .nil)) (.node (some (.v (.one (.s (.d h141))))) (.node (some (.v (.one (.s (.ptr 830 0 1))))) .nil .nil) .nil))) (.node (some (.v (.one (.s (.sl 11070 0 0 1 false))))) m925 m926))
def m928 : PM AVal := (.node (some (.v (.one (.s (.d (.int .i64 (.ofNat 0))))))) (.node (some (.v (.one (.s (.d (.str [])))))) (.node (some (.v (.one (.s (.d (.int .i64 (.ofNat 0))))))) (.node (some (.v (.one (.s (.sl 11069 0 0 1 true))))) .nil .nil) .nil) (.node (some (.v (.one (.s (.ptr 830 0 1))))) .nil .nil)) (.node (some (.v (.one (.s (.ptr 830 0 1))))) (.node (some (.v (.one (.s (.ptr 830 0 0))))) .nil .nil) .nil))
def m929 : PM AVal := (.node (some (.v (.one (.s (.d (.bool false)))))) (.node (some (.v (.one (.s (.ptr 830 0 1))))) (.node (some (.v (.one (.s (.d (.bool false)))))) .nil .nil) (.node (some (.v (.one (.s (.ptr 832 0 1))))) .nil .nil)) (.node (some (.v (.one (.s (.d (.int .i64 (.ofNat 29))))))) (.node (some (.v (.one (.s (.d h106))))) .nil .nil) .nil))
def m930 : PM AVal := (.node (some (.v (.one (.s (.ptr 830 0 0))))) (.node (some (.v (.one (.s (.ptr 830 0 0))))) (.node (some (.v (.one (.s (.d (.bool true)))))) .nil .nil) (.node (some (.v (.one (.s (.d (.bool false)))))) .nil .nil)) (.node (some (.v (.one (.s (.d (.int .i64 (.ofNat 0))))))) (.node (some (.v (.one (.s (.d h179))))) .nil .nil) (.node (some (.v (.one (.s (.d (.sl [] true)))))) .nil .nil)))
def m931 : PM AVal := (.node none (.node (some (.v (.one (.s (.d (.sl [] true)))))) m928 m929) (.node (some (.v (.one (.s (.d h141))))) (.node (some (.v (.one (.s (.ptr 830 0 0))))) (.node (some (.v (.one (.s (.d h106))))) .nil (.node (some (.v (.one (.s (.d h141))))) .nil .nil)) (.node (some y143) (.node (some (.v (.one (.s (.ptr 830 0 0))))) .nil .nil) .nil)) m930))
def f932 : Fr := ⟨(.node (some (.v (.one (.s (.ptr 830 0 0))))) m927 m931), [], none⟩
def m933 : PM AObj := (.node none (.node none (.node none (.node (some x23) .nil .nil) (.node (some x43) .nil (.node none (.node none .nil (.node none (.node (some x862) .nil .nil) .nil)) .nil))) (.node none (.node none .nil (.node none (.node none .nil (.node none (.node (some x302) .nil .nil) .nil)) .nil)) .nil)) (.node none (.node none .nil (.node none (.node none (.node none .nil (.node none (.node (some x18) .nil .nil) .nil)) .nil) .nil)) .nil))
def m934 : PM AObj := (.node none (.node none (.node none m288 (.node none (.node none (.node none .nil (.node none (.node none (.node none .nil (.node (some x289) .nil .nil)) .nil) .nil)) .nil) (.node (some x18) (.node none .nil (.node (some x290) .nil .nil)) .nil))) m292) (.node (some x29) (.node none m294 m296) (.node none m301 m933)))
def m935 : PM AObj := (.node none (.node none (.node none .nil (.node (some x339) (.node none (.node none .nil (.node none (.node (some x18) .nil .nil) .nil)) .nil) (.node none (.node none .nil (.node none (.node (some x862) .nil .nil) .nil)) .nil))) .nil) (.node none (.node none .nil (.node none (.node none (.node none .nil (.node none (.node (some x34) .nil .nil) .nil)) .nil) .nil)) .nil))
def m936 : PM AObj := (.node none (.node none (.node none m331 m334) m336) (.node (some x41) m338 (.node none (.node none (.node none (.node none .nil (.node none .nil (.node none (.node none .nil (.node none (.node (some x297) .nil .nil) .nil)) .nil))) .nil) (.node (some x20) (.node none .nil (.node (some x55) .nil .nil)) .nil)) m935)))
def m937 : PM AObj := (.node (some x305) (.node none (.node none m894 (.node none m312 m313)) (.node none (.node none m315 (.node none (.node (some x41) (.node (some x41) .nil .nil) .nil) (.node none .nil (.node none .nil (.node none .nil (.node none (.node none (.node none .nil (.node (some x272) .nil .nil)) .nil) .nil)))))) m318)) (.node none m330 m936))
def s938 : St := ⟨(.node (some x247) (.node (some x248) (.node none m259 (.node none (.node (some x18) (.node none m261 m262) m266) (.node (some x32) (.node none m268 m270) m273))) (.node none m864 m934)) m937), 11071, 0⟩
theorem t923 : PC (evO badP allP Ot A 1000000 198) 1000000 k922 f890 s896 .normal f932 s938 := fun K => by kernel_rfl
def k939 : ACode := .seq k920 k922
theorem t940 : PC (evO badP allP Ot A 1000000 198) 1000000 k939 f154 s158 .normal f932 s938 := PC.seq t921 t923
def k941 : ACode := .seq k148 k939
theorem t942 : PC (evO badP allP Ot A 1000000 198) 1000000 k941 f147 s132 .normal f932 s938 := PC.seq t149 t940
def k943 : ACode := .seq k139 k941
theorem t944 : PC (evO badP allP Ot A 1000000 198) 1000000 k943 f136 s132 .normal f932 s938 := PC.seq t140 t942
def k945 : ACode := .block 1 k943
theorem t946 : PC (evO badP allP Ot A 1000000 198) 1000000 k945 f136 s132 .normal f932 s938 := PC.block t944 rfl
end Go.Proofs.YtcdebohjjkffkaaGreat.ts
