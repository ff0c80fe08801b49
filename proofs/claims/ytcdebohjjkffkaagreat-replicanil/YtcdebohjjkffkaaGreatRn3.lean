/- A closed run, printed by program: piece by piece. -/
import Derived.Test.YtcdebohjjkffkaaGreatRn2
namespace Go.Proofs.YtcdebohjjkffkaaGreat.tr
open Go Go.Rf
set_option maxRecDepth 1000000
def k641 : ACode := .seq (
.seq (
.region [V 24 8,
Q 25 (.bin .neq .scalar (.t 24) (ci 0))]) (
.cond (.t 25) (
.seq (
.region [V 26 0,
Q 27 (.nilck (.t 26)),
Q 28 (.faddr 0 (.t 27)),
Q 29 (.load false 1 (.t 28)),
E 30 (.callf 209 [(.t 29)])]) (
.seq (
.region [Q 6 (.mov (ci 3))]) (
.ret))) (
.skip))) (
.seq (
.region [V 31 0,
Q 32 (.nilck (.t 31)),
Q 33 (.faddr 0 (.t 32)),
Q 34 (.load false 1 (.t 33)),
E 35 (.callf 138 [(.t 34)]),
V 9 35]) (
.seq (
.region [V 36 9]) (
.block 0 (
.seq (
.region [Q 42 (.bin .eql .scalar (.t 36) (ci 0)),
V 41 42]) (
.cond (.t 41) (
.seq (
.region [V 43 0,
V 44 0,
Q 45 (.load true 2 (.t 7)),
V 46 1,
Q 47 (.nilck (.t 43)),
Q 48 (.faddr 3 (.t 47)),
S 2 48 45,
Q 49 (.nilck (.t 44)),
Q 50 (.faddr 2 (.t 49)),
S 1 50 46]) (
.seq (
.region [Q 6 (.mov (ci 0))]) (
.ret))) (
.seq (
.region [Q 52 (.bin .eql .scalar (.t 36) (ci 3)),
V 51 52]) (
.cond (.t 51) (
.seq (
.region [V 53 0,
Q 54 (.nilck (.t 53)),
Q 55 (.faddr 0 (.t 54)),
Q 56 (.load false 1 (.t 55)),
E 57 (.callf 209 [(.t 56)])]) (
.seq (
.region [V 58 9,
V 6 58]) (
.ret))) (
.seq (
.region [V 37 0,
Q 38 (.nilck (.t 37)),
Q 39 (.faddr 5 (.t 38)),
⟨none, .e (.store 1 (.t 39) (cb true)), none, 0⟩]) (
.seq (
.region [V 40 9,
V 6 40]) (
.ret))))))))))
def m643 : PM AVal := (nn (nd (vp 10359 0 0) (nd (vi 0) (lf (vp 809 0 0)) (lf (vp 809 0 0))) (lf (vi 0))) (nd (vc e449) (nd (vp 809 0 1) (lf (vi 0)) .nil) (nn (lf (vp 809 0 0)) .nil)))
def m644 : PM AVal := (nd (vi 0) (nd (vp 809 0 0) (lf (vp 809 0 0)) (lf (vp 809 0 0))) (nd (vb false) (lf (vb true)) .nil))
def m645 : PM AVal := (nn (nd (vi 0) (nd (vb true) (lf (vp 809 0 0)) (lf (vp 809 0 3))) (lf (vi 0))) (nd (.tup [u464, (.one (xi 0))]) (nd (vp 457 0 0) (lf (vi 0)) .nil) (nn (lf (vp 809 0 0)) .nil)))
def m646 : PM AVal := (nd (.tup [u464, (.one (xi 0))]) (nd (vp 809 0 0) (lf (vp 255 0 0)) (lf (vp 809 0 2))) (nn (lf (vb true)) .nil))
def m647 : PM AVal := (nd (vp 809 0 0) (nd (vp 894 0 0) m643 (nn m644 (nd (.v u464) (lf (.v u464)) (nn (lf (.v u464)) .nil)))) (nd (vc e449) m645 (nd (vi 0) m646 (nd (vi 0) (lf (vs [0, 1, 2])) (nn (lf (vp 894 0 0)) .nil)))))
def f648 : Fr := ⟨m647, [], none⟩
theorem t642 : PC (evO badP allP Ot A 1000000 193) 1000000 k641 f527 s543 .ret f648 s388 := fun K => by kernel_rfl
def k649 : ACode := .seq k639 k641
theorem t650 : PC (evO badP allP Ot A 1000000 193) 1000000 k649 f489 s492 .ret f648 s388 := PC.seq t640 t642
def k651 : ACode := .seq k500 k649
theorem t652 : PC (evO badP allP Ot A 1000000 193) 1000000 k651 f459 s441 .ret f648 s388 := PC.seq t501 t650
def k653 : ACode := .seq k456 k651
theorem t654 : PC (evO badP allP Ot A 1000000 193) 1000000 k653 f458 s441 .ret f648 s388 := PC.seq t457 t652
def g655 : List Vl := [(.one (.s (.ptr 809 0 0))), (.one (.s (.ptr 894 0 0))), (.one e449)]
theorem cc656k : a188.code = k653 := by kernel_rfl
theorem cc656 : PKO Ot A 1000000 194 188 g655 s441 (vi 0) s388 := PKO.mk (af := a188) (K := k653) (f := f458) (s0 := s441) (by kernel_rfl) (by kernel_rfl) cc656k (by kernel_rfl) (by kernel_rfl) t654 (fun K PN => by kernel_rfl)
def m657 : PM AVal := (nd (vi 0) (nd (vp 971 0 0) (nd (vp 809 0 2) (lf (vi 0)) .nil) .nil) (nd (vb false) (lf (.v u217)) (lf (vb false))))
def f658 : Fr := ⟨(nd (vp 809 0 0) (nd (.v u217) m450 m451) (nd (vp 892 0 0) m657 m452)), [], none⟩
theorem o659 : PX (evO badP allP Ot A 1000000 194) [⟨some 32, .e (.callf 188 [(.t 29), (.t 30), (.t 31)]), none, 0⟩] f453 s441 f658 s388 := PX.callO (by kernel_rfl) (by kernel_rfl) cc656 (by kernel_rfl)
def r660 : List AOper := [V 4 32]
theorem o661 : PX (evO badP allP Ot A 1000000 194) r660 f658 s388 f658 s388 := fun r K => by kernel_rfl
def r662 : List AOper := r660 ++ []
theorem o663 : PO (evO badP allP Ot A 1000000 194) r662 f658 s388 .normal f658 s388 := PO.app o661 PO.nil
def r664 : List AOper := r455 ++ r662
theorem o665 : PO (evO badP allP Ot A 1000000 194) r664 f453 s441 .normal f658 s388 := PO.app o659 o663
def r666 : List AOper := r448 ++ r664
theorem o667 : PO (evO badP allP Ot A 1000000 194) r666 f447 s441 .normal f658 s388 := PO.app o454 o665
def k668 : ACode := .region r666
theorem t669 : PC (evO badP allP Ot A 1000000 194) 1000000 k668 f447 s441 .normal f658 s388 := PC.region o667
def k670 : ACode := .ret
theorem t671 : PC (evO badP allP Ot A 1000000 194) 1000000 k670 f658 s388 .ret f658 s388 := fun K => by kernel_rfl
def k672 : ACode := .seq k668 k670
theorem t673 : PC (evO badP allP Ot A 1000000 194) 1000000 k672 f447 s441 .ret f658 s388 := PC.seq t669 t671
def k674 : ACode := .seq k442 k672
theorem t675 : PC (evO badP allP Ot A 1000000 194) 1000000 k674 f438 s441 .ret f658 s388 := PC.seq t443 t673
def k676 : ACode := .seq k433 k674
theorem t677 : PC (evO badP allP Ot A 1000000 194) 1000000 k676 f419 s432 .ret f658 s388 := PC.seq t434 t675
def k678 : ACode := .seq k414 k676
theorem t679 : PC (evO badP allP Ot A 1000000 194) 1000000 k678 f407 s413 .ret f658 s388 := PC.seq t415 t677
def k680 : ACode := .seq k403 k678
theorem t681 : PC (evO badP allP Ot A 1000000 194) 1000000 k680 f402 s398 .ret f658 s388 := PC.seq t404 t679
def k682 : ACode := .seq k399 k680
theorem t683 : PC (evO badP allP Ot A 1000000 194) 1000000 k682 f394 s398 .ret f658 s388 := PC.seq t400 t681
def k684 : ACode := .seq k391 k682
theorem t685 : PC (evO badP allP Ot A 1000000 194) 1000000 k684 f393 s372 .ret f658 s388 := PC.seq t392 t683
def g686 : List Vl := [(.one (.s (.ptr 809 0 0))), u217]
theorem cc687k : a171.code = k684 := by kernel_rfl
theorem cc687 : PKO Ot A 1000000 195 171 g686 s372 (vi 0) s388 := PKO.mk (af := a171) (K := k684) (f := f393) (s0 := s372) (by kernel_rfl) (by kernel_rfl) cc687k (by kernel_rfl) (by kernel_rfl) t685 (fun K PN => by kernel_rfl)
theorem d688 : PD (evO badP allP Ot A 1000000 195) 885 q371 [⟨5, ⟨some 15, .e (.callf 171 [(.t 13), (.t 14)]), none, 31⟩⟩] w381 w389 := PD.callO (by kernel_rfl) (by kernel_rfl) (by kernel_rfl) cc687 (by kernel_rfl) (by kernel_rfl)
def m689 : PM AVal := (nd (.v u217) (nd (vp 884 0 0) (nd (vp 845 0 0) (lf (vi 0)) .nil) (lf (vp 845 0 0))) (nd (vi 0) (lf (vb false)) (lf (vp 809 0 0))))
def f690 : Fr := ⟨(nd (vp 845 0 0) m689 m375), [], none⟩
def w691 : Dr := ⟨f690, s388, [], [⟨4, 0, p378, .load true 3 (.t 3), (.v u217)⟩, ⟨3, 7, p380, .load false 1 (.t 12), (vp 809 0 0)⟩]⟩
def q692 : List DOp := [W 6 5 15 63]
theorem d693 : PD (evO badP allP Ot A 1000000 195) 885 q371 q692 w389 w691 := fun r K => by kernel_rfl
theorem d694 : PR (evO badP allP Ot A 1000000 195) 885 q371 [] w691 f690 s388 := fun K => by kernel_rfl
def q695 : List DOp := q692 ++ []
theorem d696 : PR (evO badP allP Ot A 1000000 195) 885 q371 q695 w389 f690 s388 := PR.app d693 d694
def q697 : List DOp := q390 ++ q695
theorem d698 : PR (evO badP allP Ot A 1000000 195) 885 q371 q697 w381 f690 s388 := PR.app d688 d696
def q699 : List DOp := q382 ++ q697
theorem d700 : PR (evO badP allP Ot A 1000000 195) 885 q371 q699 w373 f690 s388 := PR.app d383 d698
def k701 : ACode := .draw q371
theorem t702 : PC (evO badP allP Ot A 1000000 195) 1000000 k701 f370 s366 .normal f690 s388 := PC.drawN (by kernel_rfl) (by kernel_rfl) (by kernel_rfl) d700
def k703 : ACode := .seq (
.seq (
.region [V 16 5]) (
.block 0 (
.seq (
.region [Q 18 (.bin .eql .scalar (.t 16) (ci 0)),
V 17 18]) (
.cond (.t 17) (
.seq (
.region [V 19 0,
Q 20 (.nilck (.t 19)),
Q 21 (.faddr 3 (.t 20)),
Q 22 (.load false 1 (.t 21)),
Q 23 (.bin .add .scalar (.t 22) (ci 1)),
Q 24 (.nilck (.t 19)),
Q 25 (.faddr 3 (.t 24)),
S 1 25 23]) (
.seq (
.region [V 26 5,
V 4 26]) (
.ret))) (
.seq (
.seq (
.region [Q 28 (.bin .eql .scalar (.t 16) (ci 7)),
V 27 28]) (
.cond (.t 27) (
.skip) (
.seq (
.region [Q 29 (.bin .eql .scalar (.t 16) (ci 12)),
V 27 29]) (
.cond (.t 27) (
.skip) (
.seq (
.region [Q 30 (.bin .eql .scalar (.t 16) (ci 1)),
V 27 30]) (
.cond (.t 27) (
.skip) (
.seq (
.region [Q 31 (.bin .eql .scalar (.t 16) (ci 11)),
V 27 31]) (
.cond (.t 27) (
.skip) (
.seq (
.region [Q 32 (.bin .eql .scalar (.t 16) (ci 18)),
V 27 32]) (
.cond (.t 27) (
.skip) (
.seq (
.region [Q 33 (.bin .eql .scalar (.t 16) (ci 10)),
V 27 33]) (
.cond (.t 27) (
.skip) (
.region [Q 34 (.bin .eql .scalar (.t 16) (ci 19)),
V 27 34]))))))))))))) (
.cond (.t 27) (
.seq (
.region [V 35 5,
V 4 35]) (
.ret)) (
.skip))))))) (
.seq (
.region [V 36 0,
Q 37 (.nilck (.t 36)),
Q 38 (.faddr 2 (.t 37)),
⟨none, .e (.store 1 (.t 38) (cb true)), none, 0⟩]) (
.seq (
.region [Q 4 (.mov (ci 17))]) (
.ret)))
def m705 : PM AVal := (nd (vp 884 0 0) (nd (vp 845 0 0) (lf (vi 0)) (lf (vi 1))) (nd (vp 845 0 0) (lf (vp 845 0 0)) .nil))
def m706 : PM AVal := (nd (vi 0) (nd (vb false) (lf (vb true)) (lf (vp 845 0 3))) (nd (vp 809 0 0) (lf (vp 845 0 3)) .nil))
def m707 : PM AVal := (nd (vi 0) (nd (vp 845 0 2) (lf (vi 0)) (lf (vp 845 0 0))) (nd (vp 845 0 0) (lf (vp 845 0 0)) .nil))
def m708 : PM AVal := (nd (vp 845 0 0) (nd (vp 845 0 0) (lf (vb true)) (lf (vi 0))) (nd (.v u217) (lf (vi 0)) .nil))
def f709 : Fr := ⟨(nd (vp 845 0 0) (nd (.v u217) m705 m706) (nn m707 m708)), [], none⟩
theorem t704 : PC (evO badP allP Ot A 1000000 195) 1000000 k703 f690 s388 .ret f709 s357 := fun K => by kernel_rfl
def k710 : ACode := .seq k701 k703
theorem t711 : PC (evO badP allP Ot A 1000000 195) 1000000 k710 f370 s366 .ret f709 s357 := PC.seq t702 t704
def k712 : ACode := .seq k367 k710
theorem t713 : PC (evO badP allP Ot A 1000000 195) 1000000 k712 f363 s366 .ret f709 s357 := PC.seq t368 t711
def k714 : ACode := .seq k360 k712
theorem t715 : PC (evO badP allP Ot A 1000000 195) 1000000 k714 f362 s235 .ret f709 s357 := PC.seq t361 t713
def g716 : List Vl := [(.one (.s (.ptr 845 0 0))), u217]
theorem cc717k : a122.code = k714 := by kernel_rfl
theorem cc717 : PKO Ot A 1000000 196 122 g716 s235 (vi 0) s357 := PKO.mk (af := a122) (K := k714) (f := f362) (s0 := s235) (by kernel_rfl) (by kernel_rfl) cc717k (by kernel_rfl) (by kernel_rfl) t715 (fun K PN => by kernel_rfl)
theorem d718 : PD (evO badP allP Ot A 1000000 196) 877 q234 [⟨4, ⟨some 37, .e (.callf 122 [(.t 35), (.t 36)]), none, 12⟩⟩] w245 w358 := PD.callO (by kernel_rfl) (by kernel_rfl) (by kernel_rfl) cc717 (by kernel_rfl) (by kernel_rfl)
def u719 : Vl := (.agg [(xi 1), (xi 0)])
def m720 : PM AVal := (nd (vi 0) (nd (.v u217) (nd (vp 867 0 0) (lf (vi 1)) .nil) .nil) (nd (vb false) (nd (vb false) (lf (.v u719)) .nil) .nil))
def m721 : PM AVal := (nd (vp 845 0 0) m249 (nn (nd (vp 866 0 0) (lf (.v (.one (.s (.d h157))))) (nd (vb false) (nd (vp 845 0 0) (lf (.v u217)) .nil) .nil)) m720))
def f722 : Fr := ⟨m721, [], none⟩
def x723 : AObj := (.row 137 2 0 [(xi 1), (xi 0)])
def m724 : PM AObj := (nn (nn (nd x24 m332 (nd x29 (nd x29 .nil (nn .nil (lf x333))) (nn (nn .nil (lf x723)) .nil))) (nn (nn .nil (nn (nn (lf x49) .nil) .nil)) m336)) (nn m339 (nn m341 (nn (nn (nn (nn .nil (nn (nn (nn (nn (lf x272) .nil) .nil) .nil) .nil)) .nil) .nil) .nil))))
def s725 : St := ⟨(nd x258 (nd x259 (nn (nn m264 (nn m267 (nn m271 m275))) m287) (nn m300 m311)) (nd x53 m331 (nn m724 m356))), 17262, 0⟩
def w726 : Dr := ⟨f722, s725, [], [⟨3, 0, p242, .load true 3 (.t 5), (.v u217)⟩, ⟨1, 1, p244, .load false 1 (.t 33), (vi 1)⟩]⟩
def q727 : List DOp := [D 5 38 (.build zl7 [(0, 1, (.t 34)), (1, 1, (.t 37))]) 31,
⟨6, ⟨none, .e (.store 2 (.t 4) (.t 38)), none, 63⟩⟩]
theorem d728 : PD (evO badP allP Ot A 1000000 196) 877 q234 q727 w358 w726 := fun r K => by kernel_rfl
theorem d729 : PR (evO badP allP Ot A 1000000 196) 877 q234 [] w726 f722 s725 := fun K => by kernel_rfl
def q730 : List DOp := q727 ++ []
theorem d731 : PR (evO badP allP Ot A 1000000 196) 877 q234 q730 w358 f722 s725 := PR.app d728 d729
def q732 : List DOp := q359 ++ q730
theorem d733 : PR (evO badP allP Ot A 1000000 196) 877 q234 q732 w245 f722 s725 := PR.app d718 d731
def q734 : List DOp := q246 ++ q732
theorem d735 : PR (evO badP allP Ot A 1000000 196) 877 q234 q734 w236 f722 s725 := PR.app d247 d733
def k736 : ACode := .draw q234
theorem t737 : PC (evO badP allP Ot A 1000000 196) 1000000 k736 f228 s233 .normal f722 s725 := PC.drawN (by kernel_rfl) (by kernel_rfl) (by kernel_rfl) d735
theorem t738 : PC (evO badP allP Ot A 1000000 196) 1000000 k670 f722 s725 .ret f722 s725 := fun K => by kernel_rfl
def k739 : ACode := .seq k736 k670
theorem t740 : PC (evO badP allP Ot A 1000000 196) 1000000 k739 f228 s233 .ret f722 s725 := PC.seq t737 t738
def k741 : ACode := .seq k223 k739
theorem t742 : PC (evO badP allP Ot A 1000000 196) 1000000 k741 f219 s222 .ret f722 s725 := PC.seq t224 t740
def k743 : ACode := .seq k214 k741
theorem t744 : PC (evO badP allP Ot A 1000000 196) 1000000 k743 f210 s213 .ret f722 s725 := PC.seq t215 t742
def k745 : ACode := .seq k207 k743
theorem t746 : PC (evO badP allP Ot A 1000000 196) 1000000 k745 f209 s199 .ret f722 s725 := PC.seq t208 t744
def g747 : List Vl := [(.one (.s (.ptr 845 0 0))), (.one (.s (.d h157)))]
theorem cc748k : a70.code = k745 := by kernel_rfl
theorem cc748 : PKO Ot A 1000000 197 70 g747 s199 (.v u719) s725 := PKO.mk (af := a70) (K := k745) (f := f209) (s0 := s199) (by kernel_rfl) (by kernel_rfl) cc748k (by kernel_rfl) (by kernel_rfl) t746 (fun K PN => by kernel_rfl)
def m749 : PM AVal := (nd (.v (.one (.s (.d h112)))) (nn m190 (nd (vb true) (nd (vp 845 0 0) .nil (lf (.v u719))) (nd (.v (.one (.s (.d h157)))) (lf (vp 845 0 1)) .nil))) m201)
def f750 : Fr := ⟨(nd (vp 845 0 0) m749 (nn m193 m202)), [], none⟩
theorem o751 : PX (evO badP allP Ot A 1000000 197) [⟨some 51, .e (.callf 70 [(.t 49), (.t 50)]), none, 0⟩] f204 s199 f750 s725 := PX.callO (by kernel_rfl) (by kernel_rfl) cc748 (by kernel_rfl)
def r752 : List AOper := [S 2 9 51]
def m753 : PM AObj := (nn (nn (nn .nil (nn .nil (lf x220))) (nn (nn .nil (nn (nn (nn (nn (nn (lf x289) .nil) .nil) .nil) .nil) .nil)) .nil)) (nd x38 (lf x39) (nn (nn .nil (lf x723)) .nil)))
def m754 : PM AObj := (nn (nd x288 m753 (nn (nn (nn .nil (nn (lf x40) .nil)) (nn (nn (lf x24) (lf x85)) (lf x34))) (nn m293 .nil))) (nn (nn (nn (nn (nn .nil (lf x41)) .nil) (nn .nil (nd x42 (lf x43) .nil))) m296) m299))
def s755 : St := ⟨(nd x258 (nd x259 (nn (nn m264 (nn m267 (nn m271 m275))) m287) (nn m754 m311)) (nd x53 m331 (nn m724 m356))), 17262, 0⟩
theorem o756 : PX (evO badP allP Ot A 1000000 197) r752 f750 s725 f750 s755 := fun r K => by kernel_rfl
def r757 : List AOper := r752 ++ []
theorem o758 : PO (evO badP allP Ot A 1000000 197) r757 f750 s725 .normal f750 s755 := PO.app o756 PO.nil
def r759 : List AOper := r206 ++ r757
theorem o760 : PO (evO badP allP Ot A 1000000 197) r759 f204 s199 .normal f750 s755 := PO.app o751 o758
def r761 : List AOper := r200 ++ r759
theorem o762 : PO (evO badP allP Ot A 1000000 197) r761 f196 s199 .normal f750 s755 := PO.app o205 o760
def k763 : ACode := .region r761
theorem t764 : PC (evO badP allP Ot A 1000000 197) 1000000 k763 f196 s199 .normal f750 s755 := PC.region o762
def k765 : ACode := .seq k188 k763
theorem t766 : PC (evO badP allP Ot A 1000000 197) 1000000 k765 f187 s173 .normal f750 s755 := PC.seq t189 t764
def k767 : ACode := .region [V 33 0,
Q 34 (.nilck (.t 33)),
Q 35 (.faddr 1 (.t 34)),
⟨none, .e (.store 1 (.t 35) (cs [])), none, 0⟩]
def k768 : ACode := .cond (.t 38) k765 k767
theorem t769 : PC (evO badP allP Ot A 1000000 197) 1000000 k768 f187 s173 .normal f750 s755 := PC.condT (by kernel_rfl) t766
def k770 : ACode := .seq k183 k768
theorem t771 : PC (evO badP allP Ot A 1000000 197) 1000000 k770 f182 s173 .normal f750 s755 := PC.seq t184 t769
def k772 : ACode := .exit 0
def k773 : ACode := .cond (.t 36) k772 k770
theorem t774 : PC (evO badP allP Ot A 1000000 197) 1000000 k773 f182 s173 .normal f750 s755 := PC.condF (by kernel_rfl) t771
def k775 : ACode := .seq k178 k773
theorem t776 : PC (evO badP allP Ot A 1000000 197) 1000000 k775 f177 s173 .normal f750 s755 := PC.seq t179 t774
def k777 : ACode := .block 2 k775
theorem t778 : PC (evO badP allP Ot A 1000000 197) 1000000 k777 f177 s173 .normal f750 s755 := PC.block t776 rfl
def k779 : ACode := .seq k174 k777
theorem t780 : PC (evO badP allP Ot A 1000000 197) 1000000 k779 f170 s173 .normal f750 s755 := PC.seq t175 t778
def k781 : ACode := .seq (
.seq (
.region [Q 52 (.faddr 1 (.t 9)),
Q 53 (.load false 1 (.t 52)),
Q 54 (.bin .neq .scalar (.t 53) (ci 0))]) (
.cond (.t 54) (
.region [V 55 0,
Q 56 (.nilck (.t 55)),
Q 57 (.faddr 5 (.t 56)),
Q 58 (.load false 1 (.t 57)),
Q 59 (.bin .add .scalar (.t 58) (ci 1)),
Q 60 (.nilck (.t 55)),
Q 61 (.faddr 5 (.t 60)),
S 1 61 59]) (
.skip))) (
.region [V 62 5,
Q 63 (.load true 2 (.t 9)),
M 64 (.bslice 137 2 1 zl7 [(0, 2, (.t 63))]),
E 65 (.append 137 2 16 (.t 62) (.t 64)),
V 5 65])
def m783 : PM AVal := (nd (vi 29) (nd (vp 845 0 1) (nd (.v u166) (lf (.v u719)) .nil) (lf (vp 845 0 0))) (nd (vp 845 0 0) (lf (vb true)) .nil))
def m784 : PM AVal := (nd (vp 865 0 0) (nd (.v (.one (.s (.d h112)))) (nn (lf (.v (.one (.s (.sl 17263 0 0 1 false))))) .nil) (lf (vp 845 0 0))) (nd (.v (.one (.s (.d h112)))) (lf (vp 845 0 0)) .nil))
def m785 : PM AVal := (nd (vp 845 0 0) (nd y159 (lf (vb false)) (lf (vi 0))) (nd (vi 0) (lf (vi 29)) .nil))
def m786 : PM AVal := (nd (.v (.one (.s (.d h112)))) (nn m783 (nd (vb true) (nd (vp 845 0 0) .nil (lf (.v u719))) (nd (.v (.one (.s (.d h157)))) (lf (vp 845 0 1)) .nil))) (nd (.v (.one (.s (.sl 17263 0 0 1 false)))) m784 m785))
def m787 : PM AVal := (nd (vi 0) (nd (vs []) (nd (vi 0) (lf (.v (.one (.s (.sl 17262 0 0 1 true))))) .nil) (lf (vp 845 0 1))) (nd (vp 845 0 1) (lf (vp 845 0 0)) .nil))
def m788 : PM AVal := (nd (vb false) (nd (vp 845 0 1) (lf (vb false)) (lf (vp 865 0 1))) (nd (vi 29) (lf (.v (.one (.s (.d h112))))) .nil))
def m789 : PM AVal := (nd (vp 845 0 0) (nd (vp 845 0 0) (lf (vb true)) (lf (vb false))) (nd (vi 0) (lf (vs [0, 0, 0, 21, 1])) (lf (.v (.one (.s (.d (.sl [] true))))))))
def m790 : PM AVal := (nn (nd (.v (.one (.s (.d (.sl [] true))))) m787 m788) (nd (.v (.one (.s (.d h157)))) (nd (vp 845 0 0) (nd (.v (.one (.s (.d h112)))) .nil (lf (.v (.one (.s (.d h157)))))) (nd y159 (lf (vp 845 0 0)) .nil)) m789))
def f791 : Fr := ⟨(nd (vp 845 0 0) m786 m790), [], none⟩
def m792 : PM AObj := (nn (nn .nil (nn .nil (nd x30 (nn (nn (nn (nn (lf x63) .nil) .nil) .nil) .nil) .nil))) (nd x26 (nn .nil (nn (nn (nn (nn (nn (lf x24) .nil) .nil) .nil) .nil) (nn (nn (nn (nn (lf x723) .nil) .nil) .nil) .nil))) (nn (lf x27) .nil)))
def m793 : PM AObj := (nn (nn (nn (nn .nil (lf x24)) (nd x25 .nil (lf x260))) (nn (nn .nil (nd x83 .nil (nn (nn (nn (nn (lf x261) .nil) .nil) .nil) .nil))) .nil)) m792)
def m794 : PM AObj := (nn (nn (nn (nn (nd x18 (lf x23) .nil) (nn .nil (lf x30))) (nn (nn .nil (nn (nn (nn (nn (nn (lf x24) .nil) .nil) .nil) .nil) .nil)) .nil)) .nil) m793)
def m795 : PM AObj := (nd x56 (nd x56 .nil (nn .nil (nd x333 (nn (nn (nn (nn (lf x24) .nil) .nil) .nil) .nil) .nil))) (nd x26 (nn .nil (nn .nil (nn (nn (nn (nn (lf x723) .nil) .nil) .nil) .nil))) (nn (nn .nil (nn (nn (nn (nn (lf x268) .nil) .nil) .nil) .nil)) .nil)))
def m796 : PM AObj := (nn (nn m346 (nn (nn (nn .nil (nn (lf x24) .nil)) (nn (nn (lf x49) .nil) .nil)) m347)) (nn (nn m348 m795) (nn m352 (nn (nn .nil (nn (lf x24) .nil)) m355))))
def s797 : St := ⟨(nd x258 (nd x259 (nn (nn m794 (nn m267 (nn m271 m275))) m287) (nn m754 m311)) (nd x53 m331 (nn m724 m796))), 17264, 0⟩
theorem t782 : PC (evO badP allP Ot A 1000000 197) 1000000 k781 f750 s755 .normal f791 s797 := fun K => by kernel_rfl
def k798 : ACode := .seq k779 k781
theorem t799 : PC (evO badP allP Ot A 1000000 197) 1000000 k798 f170 s173 .normal f791 s797 := PC.seq t780 t782
def k800 : ACode := .seq k164 k798
theorem t801 : PC (evO badP allP Ot A 1000000 197) 1000000 k800 f163 s148 .normal f791 s797 := PC.seq t165 t799
def k802 : ACode := .seq k155 k800
theorem t803 : PC (evO badP allP Ot A 1000000 197) 1000000 k802 f152 s148 .normal f791 s797 := PC.seq t156 t801
def k804 : ACode := .block 1 k802
theorem t805 : PC (evO badP allP Ot A 1000000 197) 1000000 k804 f152 s148 .normal f791 s797 := PC.block t803 rfl
def k806 : ACode := .block 1 (
.seq (
.region [V 22 0,
Q 23 (.nilck (.t 22)),
Q 24 (.faddr 1 (.t 23)),
Q 25 (.load false 1 (.t 24)),
E 26 (.callf 69 [(.t 25)]),
V 21 26,
Q 27 (.extract 0 (.t 21)),
Q 28 (.extract 1 (.t 21)),
Q 29 (.extract 2 (.t 21)),
V 6 27,
V 7 28,
V 8 29]) (
.seq (
.region [V 30 8,
Q 31 (.build zl7 [(1, 1, (.t 30))]),
M 9 (.alloc 137 2 zl7),
S 2 9 31]) (
.seq (
.seq (
.region [V 32 8]) (
.block 2 (
.seq (
.region [Q 37 (.bin .eql .scalar (.t 32) (ci 8)),
V 36 37]) (
.cond (.t 36) (
.exit 0) (
.seq (
.region [Q 39 (.bin .eql .scalar (.t 32) (ci 0)),
V 38 39]) (
.cond (.t 38) (
.seq (
.region [V 40 0,
V 41 0,
Q 42 (.nilck (.t 41)),
Q 43 (.faddr 1 (.t 42)),
Q 44 (.load false 1 (.t 43)),
V 45 7,
Q 46 (.sslice (.t 44) (some (.t 45)) none),
Q 47 (.nilck (.t 40)),
Q 48 (.faddr 1 (.t 47)),
S 1 48 46]) (
.region [V 49 0,
V 50 6,
E 51 (.callf 70 [(.t 49), (.t 50)]),
S 2 9 51])) (
.region [V 33 0,
Q 34 (.nilck (.t 33)),
Q 35 (.faddr 1 (.t 34)),
⟨none, .e (.store 1 (.t 35) (cs [])), none, 0⟩]))))))) (
.seq (
.seq (
.region [Q 52 (.faddr 1 (.t 9)),
Q 53 (.load false 1 (.t 52)),
Q 54 (.bin .neq .scalar (.t 53) (ci 0))]) (
.cond (.t 54) (
.region [V 55 0,
Q 56 (.nilck (.t 55)),
Q 57 (.faddr 5 (.t 56)),
Q 58 (.load false 1 (.t 57)),
Q 59 (.bin .add .scalar (.t 58) (ci 1)),
Q 60 (.nilck (.t 55)),
Q 61 (.faddr 5 (.t 60)),
S 1 61 59]) (
.skip))) (
.region [V 62 5,
Q 63 (.load true 2 (.t 9)),
M 64 (.bslice 137 2 1 zl7 [(0, 2, (.t 63))]),
E 65 (.append 137 2 16 (.t 62) (.t 64)),
V 5 65])))))
def u808 : Vl := (.agg [(xi 0), (xi 8)])
def m809 : PM AVal := (nd (vi 0) (nd (vp 845 0 1) (nd (.v u808) (lf (.v u719)) .nil) (lf (vp 845 0 0))) (nd (vp 845 0 0) (lf (vb true)) .nil))
def m810 : PM AVal := (nd (vp 17264 0 0) (nd (.v (.one (.s (.d h112)))) (nn (lf (.v (.one (.s (.sl 17263 0 0 1 false))))) .nil) (lf (vp 845 0 0))) (nd (vs [0, 0, 0, 21, 1]) (lf (vp 845 0 0)) .nil))
def y811 : AVal := (.tup [(.one (xs [])), (.one (xi 0)), (.one (xi 8))])
def m812 : PM AVal := (nd (vp 845 0 0) (nd y811 (lf (vb true)) (lf (vi 0))) (nd (vi 8) (lf (vi 29)) .nil))
def m813 : PM AVal := (nd (.v (.one (.s (.d h112)))) (nn m809 (nd (vb true) (nd (vp 845 0 0) .nil (lf (.v u719))) (nd (vs []) (lf (vp 845 0 1)) .nil))) (nd (.v (.one (.s (.sl 17263 0 0 1 false)))) m810 m812))
def m814 : PM AVal := (nd (vi 8) (nd (vs []) (nd (vi 8) (lf (.v (.one (.s (.sl 17262 0 0 1 true))))) .nil) (lf (vp 845 0 1))) (nd (vp 845 0 1) (lf (vp 845 0 0)) .nil))
def m815 : PM AVal := (nd (vb false) (nd (vp 845 0 1) (lf (vb true)) (lf (vp 865 0 1))) (nd (vi 0) (lf (.v (.one (.s (.d h112))))) .nil))
def m816 : PM AVal := (nd (vp 845 0 0) (nd (vp 845 0 0) (lf (vb true)) (lf (vb false))) (nd (vi 8) (lf (vs [0, 0, 0, 21, 1])) (lf (.v (.one (.s (.d (.sl [] true))))))))
def m817 : PM AVal := (nn (nd (.v (.one (.s (.d (.sl [] true))))) m814 m815) (nd (vs []) (nd (vp 845 0 0) (nd (.v (.one (.s (.d h112)))) .nil (lf (.v (.one (.s (.d h157)))))) (nd y811 (lf (vp 845 0 0)) .nil)) m816))
def f818 : Fr := ⟨(nd (vp 845 0 0) m813 m817), [], none⟩
def x819 : AObj := (.row 137 2 0 [(xi 0), (xi 8)])
def m820 : PM AObj := (nn (nn (lf x24) (nn (nn (nn (nn (nn (nn (lf x313) .nil) .nil) .nil) .nil) .nil) .nil)) (nn (nn .nil (nn .nil (nn (nn (nn (nn (lf x819) .nil) .nil) .nil) .nil))) .nil))
def m821 : PM AObj := (nn (nn (nn (nn m312 (nd x54 (lf x54) (nn (nn .nil (lf x108)) .nil))) (nn (nn .nil (nn (nn .nil (lf x87)) .nil)) m820)) (nn m316 m317)) (nn (nn m322 (nn m323 m324)) (nn (nd x29 m326 (nn .nil (nd x24 (nn .nil (nd x58 .nil (nn (nn (nn (nn (lf x276) .nil) .nil) .nil) .nil))) .nil))) (nn m327 m330))))
def s822 : St := ⟨(nd x258 (nd x259 (nn (nn m794 (nn m267 (nn m271 m275))) m287) (nn m754 m311)) (nd x53 m821 (nn m724 m796))), 17265, 0⟩
theorem t807 : PC (evO badP allP Ot A 1000000 197) 1000000 k806 f791 s797 (.exit 0) f818 s822 := fun K => by kernel_rfl
theorem l823 : PL (evO badP allP Ot A 1000000 197) 1000000 k806 999999 f791 s797 (.exit 0) f818 s822 := PL.out t807 (fun h => nomatch h)
theorem l824 : PL (evO badP allP Ot A 1000000 197) 1000000 k804 1000000 f152 s148 (.exit 0) f818 s822 := PL.step t805 l823
def k825 : ACode := .loop k804
theorem t826 : PC (evO badP allP Ot A 1000000 197) 1000000 k825 f152 s148 (.exit 0) f818 s822 := PC.loop l824
def k827 : ACode := .block 0 k825
theorem t828 : PC (evO badP allP Ot A 1000000 197) 1000000 k827 f152 s148 .normal f818 s822 := PC.block t826 rfl
def k829 : ACode := .seq (
.region [V 66 5,
V 4 66]) (
.ret)
def m831 : PM AVal := (nd (vp 845 0 0) (nd (.v (.one (.s (.d h112)))) (nn (lf (.v (.one (.s (.sl 17263 0 0 1 false))))) .nil) (lf (.v (.one (.s (.d h157)))))) (nd y811 (lf (vp 845 0 0)) .nil))
def f832 : Fr := ⟨(nd (vp 845 0 0) m813 (nn (nd (.v (.one (.s (.sl 17263 0 0 1 false)))) m814 m815) (nd (vs []) m831 m816))), [], none⟩
theorem t830 : PC (evO badP allP Ot A 1000000 197) 1000000 k829 f818 s822 .ret f832 s822 := fun K => by kernel_rfl
def k833 : ACode := .seq k827 k829
theorem t834 : PC (evO badP allP Ot A 1000000 197) 1000000 k833 f152 s148 .ret f832 s822 := PC.seq t828 t830
def k835 : ACode := .seq k153 k833
theorem t836 : PC (evO badP allP Ot A 1000000 197) 1000000 k835 f152 s148 .ret f832 s822 := PC.seq t154 t834
def k837 : ACode := .seq k149 k835
theorem t838 : PC (evO badP allP Ot A 1000000 197) 1000000 k837 f145 s148 .ret f832 s822 := PC.seq t150 t836
def k839 : ACode := .seq k141 k837
theorem t840 : PC (evO badP allP Ot A 1000000 197) 1000000 k839 f140 s110 .ret f832 s822 := PC.seq t142 t838
def k841 : ACode := .seq k137 k839
theorem t842 : PC (evO badP allP Ot A 1000000 197) 1000000 k841 f136 s110 .ret f832 s822 := PC.seq t138 t840
def k843 : ACode := .seq k120 k841
theorem t844 : PC (evO badP allP Ot A 1000000 197) 1000000 k843 f135 s110 .ret f832 s822 := PC.seq t134 t842
def g845 : List Vl := [(.one (.s (.ptr 845 0 0))), (.one (.s (.d h112)))]
theorem cc846k : a23.code = k843 := by kernel_rfl
theorem cc846 : PKO Ot A 1000000 198 23 g845 s110 (.v (.one (.s (.sl 17263 0 0 1 false)))) s822 := PKO.mk (af := a23) (K := k843) (f := f135) (s0 := s110) (by kernel_rfl) (by kernel_rfl) cc846k (by kernel_rfl) (by kernel_rfl) t844 (fun K PN => by kernel_rfl)
def m847 : PM AVal := (nn (nd (.v (.one (.s (.d (.sl [] true))))) (nd (vp 2 0 0) (lf (.v (.one (.s (.sl 17263 0 0 1 false))))) .nil) (lf (vp 846 0 0))) (nd (vb true) (lf (vp 2 0 0)) (lf (vp 845 0 0))))
def f848 : Fr := ⟨(nd (vp 2 0 0) m129 m847), [], none⟩
theorem o849 : PX (evO badP allP Ot A 1000000 198) [⟨some 16, .e (.callf 23 [(.t 14), (.t 15)]), none, 0⟩] f131 s110 f848 s822 := PX.callO (by kernel_rfl) (by kernel_rfl) cc846 (by kernel_rfl)
def r850 : List AOper := [V 4 16]
def m851 : PM AVal := (nn (nd (.v (.one (.s (.sl 17263 0 0 1 false)))) (nd (vp 2 0 0) (lf (.v (.one (.s (.sl 17263 0 0 1 false))))) .nil) (lf (vp 846 0 0))) (nd (vb true) (lf (vp 2 0 0)) (lf (vp 845 0 0))))
def f852 : Fr := ⟨(nd (vp 2 0 0) m129 m851), [], none⟩
theorem o853 : PX (evO badP allP Ot A 1000000 198) r850 f848 s822 f852 s822 := fun r K => by kernel_rfl
def r854 : List AOper := r850 ++ []
theorem o855 : PO (evO badP allP Ot A 1000000 198) r854 f848 s822 .normal f852 s822 := PO.app o853 PO.nil
def r856 : List AOper := r133 ++ r854
theorem o857 : PO (evO badP allP Ot A 1000000 198) r856 f131 s110 .normal f852 s822 := PO.app o849 o855
def r858 : List AOper := r128 ++ r856
theorem o859 : PO (evO badP allP Ot A 1000000 198) r858 f127 s110 .normal f852 s822 := PO.app o132 o857
def k860 : ACode := .region r858
theorem t861 : PC (evO badP allP Ot A 1000000 198) 1000000 k860 f127 s110 .normal f852 s822 := PC.region o859
theorem t862 : PC (evO badP allP Ot A 1000000 198) 1000000 k670 f852 s822 .ret f852 s822 := fun K => by kernel_rfl
def k863 : ACode := .seq k860 k670
theorem t864 : PC (evO badP allP Ot A 1000000 198) 1000000 k863 f127 s110 .ret f852 s822 := PC.seq t861 t862
def k865 : ACode := .seq k124 k863
theorem t866 : PC (evO badP allP Ot A 1000000 198) 1000000 k865 f123 s110 .ret f852 s822 := PC.seq t125 t864
def k867 : ACode := .seq k120 k865
theorem t868 : PC (evO badP allP Ot A 1000000 198) 1000000 k867 f122 s110 .ret f852 s822 := PC.seq t121 t866
def g869 : List Vl := [(.one (.s (.ptr 2 0 0))), (.one (.s (.d h112)))]
theorem cc870k : a31.code = k867 := by kernel_rfl
theorem cc870 : PKO Ot A 1000000 199 31 g869 s110 (.v (.one (.s (.sl 17263 0 0 1 false)))) s822 := PKO.mk (af := a31) (K := k867) (f := f122) (s0 := s110) (by kernel_rfl) (by kernel_rfl) cc870k (by kernel_rfl) (by kernel_rfl) t868 (fun K PN => by kernel_rfl)
def m871 : PM AVal := (nd (vi 1) (nn (nn (lf (vi 1)) (lf (.v (.one (.s (.sl 17263 0 0 1 false)))))) (nd (vi 0) (lf (.v (.one (.s (.sl 864 0 0 1 true))))) .nil)) (nn (nn (lf (vp 2 0 0)) .nil) (nd (vi 1) (lf (.v (.one (.s (.d h99))))) .nil)))
def f872 : Fr := ⟨(nd (vb false) (nd (vp 2 0 0) m113 m114) (nd (vi 0) m871 m116)), [], none⟩
theorem o873 : PX (evO badP allP Ot A 1000000 199) [⟨some 48, .e (.callf 31 [(.t 43), (.t 47)]), none, 0⟩] f117 s110 f872 s822 := PX.callO (by kernel_rfl) (by kernel_rfl) cc870 (by kernel_rfl)
def r874 : List AOper := [V 8 48]
def m875 : PM AVal := (nd (.v (.one (.s (.sl 17263 0 0 1 false)))) (nn (lf (vi 1)) (lf (.v (.one (.s (.sl 17263 0 0 1 false)))))) (nd (vi 0) (lf (.v (.one (.s (.sl 864 0 0 1 true))))) .nil))
def m876 : PM AVal := (nd (vi 0) (nd (vi 1) m875 (nn (nn (lf (vp 2 0 0)) .nil) (nd (vi 1) (lf (.v (.one (.s (.d h99))))) .nil))) m116)
def f877 : Fr := ⟨(nd (vb false) (nd (vp 2 0 0) m113 m114) m876), [], none⟩
theorem o878 : PX (evO badP allP Ot A 1000000 199) r874 f872 s822 f877 s822 := fun r K => by kernel_rfl
def r879 : List AOper := r874 ++ []
theorem o880 : PO (evO badP allP Ot A 1000000 199) r879 f872 s822 .normal f877 s822 := PO.app o878 PO.nil
def r881 : List AOper := r119 ++ r879
theorem o882 : PO (evO badP allP Ot A 1000000 199) r881 f117 s110 .normal f877 s822 := PO.app o873 o880
def r883 : List AOper := r111 ++ r881
theorem o884 : PO (evO badP allP Ot A 1000000 199) r883 f107 s110 .normal f877 s822 := PO.app o118 o882
def k885 : ACode := .region r883
theorem t886 : PC (evO badP allP Ot A 1000000 199) 1000000 k885 f107 s110 .normal f877 s822 := PC.region o884
def k887 : ACode := .region [V 49 1,
E 50 (.callf 39 [(.t 49)]),
V 9 50]
def m889 : PM AVal := (nd (.v (.one (.s (.d .nilp)))) (nd (vi 5) (nn (lf (vi 0)) (lf (vp 2 0 0))) (nd y74 (lf (.v u103)) .nil)) (nn (nd y8 (lf (vb false)) .nil) (nd y74 (lf (.v (.one (.s (.d h99))))) .nil)))
def m890 : PM AVal := (nd (vi 1) (nn (nn (lf (vb false)) (lf (vi 5))) (nd y74 (lf (.v (.one (.s (.d h99))))) .nil)) (nn (nd y8 (lf (vb false)) .nil) (nd y74 (lf (vs [0, 0, 0, 21, 1])) .nil)))
def m891 : PM AVal := (nd (vi 0) (nd (vi 1) m875 (nn (nn (lf (vp 2 0 0)) .nil) (nd (vi 1) (lf (.v (.one (.s (.d h99))))) .nil))) m890)
def f892 : Fr := ⟨(nd (vb false) (nd (vp 2 0 0) m113 m889) m891), [], none⟩
theorem t888 : PC (evO badP allP Ot A 1000000 199) 1000000 k887 f877 s822 .normal f892 s822 := fun K => by kernel_rfl
def k893 : ACode := .region [V 51 1,
E 52 (.callf 34 [(.t 51)]),
V 10 52]
def m895 : PM AVal := (nd (.v (.one (.s (.d .nilp)))) (nd (.v (.one (.s (.d h99)))) (nn (lf (.v (.one (.s (.d .nilp))))) (lf (.v (.one (.s (.d h112)))))) (nd (vp 2 0 0) (lf (.v u101)) .nil)) (nn (nn (lf (vb false)) (lf (vp 2 0 0))) (nd (.v (.one (.s (.d .nilp)))) (lf (vp 2 0 0)) .nil)))
def m896 : PM AVal := (nd (vi 1) m875 (nn (nn (lf (vp 2 0 0)) (lf (vi 6))) (nd (vi 1) (lf (.v (.one (.s (.d h99))))) .nil)))
def m897 : PM AVal := (nd (vi 1) (nd (vi 6) (nn (lf (vb false)) (lf (vi 5))) (nd y74 (lf (.v (.one (.s (.d h99))))) .nil)) (nn (nd y8 (lf (vb false)) .nil) (nd y74 (lf (vs [0, 0, 0, 21, 1])) .nil)))
def f898 : Fr := ⟨(nd (vb false) (nd (vp 2 0 0) m895 m889) (nd (vi 0) m896 m897)), [], none⟩
theorem t894 : PC (evO badP allP Ot A 1000000 199) 1000000 k893 f892 s822 .normal f898 s822 := fun K => by kernel_rfl
def k899 : ACode := .region [V 53 1,
E 54 (.callf 33 [(.t 53), (.c (.one (dc (.sl [] true))))]),
V 11 54]
def m901 : PM AVal := (nd (.v (.one (.s (.d .nilp)))) (nd (.v (.one (.s (.d h99)))) (nn (lf (.v (.one (.s (.d .nilp))))) (lf (.v (.one (.s (.d h112)))))) (nd (vp 2 0 0) (lf (.v u101)) .nil)) (nd (vi 0) (nn (lf (vb false)) (lf (vp 2 0 0))) (nd (.v (.one (.s (.d .nilp)))) (lf (vp 2 0 0)) .nil)))
def m902 : PM AVal := (nd (.v (.one (.s (.d .nilp)))) (nd (vi 5) (nn (lf (vi 0)) (lf (vp 2 0 0))) (nd y74 (lf (.v u103)) .nil)) (nn (nd y8 (lf (vb false)) (lf (vp 2 0 0))) (nd y74 (lf (.v (.one (.s (.d h99))))) .nil)))
def m903 : PM AVal := (nd (vi 1) (nd (vi 6) (nn (lf (vb false)) (lf (vi 5))) (nd y74 (lf (.v (.one (.s (.d h99))))) .nil)) (nn (nd y8 (lf (vb false)) (lf (vi 0))) (nd y74 (lf (vs [0, 0, 0, 21, 1])) .nil)))
def f904 : Fr := ⟨(nd (vb false) (nd (vp 2 0 0) m901 m902) (nd (vi 0) m896 m903)), [], none⟩
def x905 : AObj := (.row 79 3 0 [(.s (.d .nilp)), (.s (.ptr 1 0 0)), (xi 100)])
def s906 : St := ⟨(nd x258 (nd x259 (nn (nn m794 (nn m267 (nn m271 m275))) m287) (nn m754 m311)) (nd x905 m821 (nn m724 m796))), 17265, 0⟩
theorem t900 : PC (evO badP allP Ot A 1000000 199) 1000000 k899 f898 s822 .normal f904 s906 := fun K => by kernel_rfl
def k907 : ACode := .region [V 55 1,
V 56 7,
E 57 (.callf 31 [(.t 55), (.t 56)]),
V 12 57]
def m909 : PM AVal := (nd (.v (.one (.s (.d .nilp)))) (nd (.v (.one (.s (.d h99)))) (nn (lf (.v (.one (.s (.d .nilp))))) (lf (.v (.one (.s (.d h112)))))) (nd (vp 2 0 0) (lf (.v u101)) (lf (vp 2 0 0)))) (nd (vi 0) (nn (lf (vb false)) (lf (vp 2 0 0))) (nd (.v (.one (.s (.d .nilp)))) (lf (vp 2 0 0)) .nil)))
def m910 : PM AVal := (nd (vi 5) (nn (lf (vi 0)) (lf (vp 2 0 0))) (nd y74 (lf (.v u103)) (lf (.v (.one (.s (.d (.sl [] true))))))))
def m911 : PM AVal := (nd (vp 2 0 0) m909 (nd (.v (.one (.s (.d .nilp)))) m910 (nn (nd y8 (lf (vb false)) (lf (vp 2 0 0))) (nd y74 (lf (.v (.one (.s (.d h99))))) .nil))))
def m912 : PM AVal := (nd (.v (.one (.s (.sl 17263 0 0 1 false)))) (nn (lf (vi 1)) (lf (.v (.one (.s (.sl 17263 0 0 1 false)))))) (nd (vi 0) (lf (.v (.one (.s (.sl 864 0 0 1 true))))) (lf (.v (.one (.s (.d h99)))))))
def m913 : PM AVal := (nd (.v (.one (.s (.d (.sl [] true))))) (nn (lf (vp 2 0 0)) (lf (vi 6))) (nd (vi 1) (lf (.v (.one (.s (.d h99))))) .nil))
def f914 : Fr := ⟨(nd (vb false) m911 (nd (vi 0) (nd (vi 1) m912 m913) m903)), [], none⟩
theorem t908 : PC (evO badP allP Ot A 1000000 199) 1000000 k907 f904 s906 .normal f914 s906 := fun K => by kernel_rfl
def k915 : ACode := .region [V 59 1,
Q 60 (.build zl10 [(0, 1, (ci 1)), (1, 1, (cs [116])), (3, 1, (ci 5))]),
E 61 (.callf 28 [(.t 59), (.t 60)]),
V 58 61,
Q 62 (.extract 0 (.t 58)),
Q 63 (.extract 1 (.t 58)),
V 13 62,
V 14 63]
def m917 : PM AVal := (nd (.v (.one (.s (.d h99)))) (nn (nd (.v (.one (.s (.d .nilp)))) (lf (vi 6)) .nil) (lf (.v (.one (.s (.d h112)))))) (nd (vp 2 0 0) (lf (.v u101)) (lf (vp 2 0 0))))
def m918 : PM AVal := (nd (vi 0) (nn (lf (vb false)) (lf (vp 2 0 0))) (nd (.v (.one (.s (.d .nilp)))) (lf (vp 2 0 0)) (lf (vp 2 0 0))))
def y919 : AVal := (.tup [(.one (.s (.d (.sl [] true)))), (.one (xi 6))])
def m920 : PM AVal := (nd (.v (.one (.s (.d .nilp)))) m910 (nd (.v (.one (.s (.d (.sl [] true))))) (nd y8 (lf (vb false)) (lf (vp 2 0 0))) (nd y74 (lf (.v (.one (.s (.d h99))))) (lf y919))))
def u921 : Vl := (.agg [(xi 1), (xs [116]), (.s (.d (.sl [] true))), (xi 5), (xi 0), (xi 0), (xi 0), (.s (.d (.sl [] true))), (.s (.d (.sl [] true))), (xi 0), (.s (.d (.bool false)))])
def m922 : PM AVal := (nd (.v (.one (.s (.d (.sl [] true))))) (nn (lf (vp 2 0 0)) (lf (vi 6))) (nd (vi 1) (lf (.v (.one (.s (.d h99))))) (lf (.v u921))))
def m923 : PM AVal := (nd (vi 6) (nn (lf (vb false)) (lf (vi 5))) (nd y74 (lf (.v (.one (.s (.d h99))))) (lf y919)))
def m924 : PM AVal := (nd (vi 6) (nd y8 (lf (vb false)) (lf (vi 0))) (nd y74 (lf (vs [0, 0, 0, 21, 1])) (lf (.v (.one (.s (.d (.sl [] true))))))))
def m925 : PM AVal := (nd (vb false) (nd (vp 2 0 0) (nd (.v (.one (.s (.d .nilp)))) m917 m918) m920) (nd (vi 0) (nd (vi 1) m912 m922) (nd (vi 1) m923 m924)))
def f926 : Fr := ⟨m925, [], none⟩
def x927 : AObj := (.row 74 11 0 [(xi 1), (xs [116]), (.s (.d (.sl [] true))), (xi 5), (xi 0), (xi 0), (xi 0), (.s (.d (.sl [] true))), (.s (.d (.sl [] true))), (xi 0), (.s (.d (.bool false)))])
def m928 : PM AObj := (nn (nn (nn .nil (nn (lf x40) .nil)) (nn (nn (lf x24) (lf x85)) (lf x34))) (nn m293 (nn (nn .nil (nn .nil (nn (nn (nn (nn (lf x927) .nil) .nil) .nil) .nil))) .nil)))
def m929 : PM AObj := (nd x259 (nn (nn m794 (nn m267 (nn m271 m275))) m287) (nn (nn (nd x288 m753 m928) (nn (nn (nn (nn (nn .nil (lf x41)) .nil) (nn .nil (nd x42 (lf x43) .nil))) m296) m299)) m311))
def s930 : St := ⟨(nd x258 m929 (nd x905 m821 (nn m724 m796))), 17266, 0⟩
theorem t916 : PC (evO badP allP Ot A 1000000 199) 1000000 k915 f914 s906 .normal f926 s930 := fun K => by kernel_rfl
def k931 : ACode := .region [V 64 1,
E 65 (.callf 34 [(.t 64)]),
V 15 65]
def m933 : PM AVal := (nd (.v (.one (.s (.d h99)))) (nd (vi 0) (nd (.v (.one (.s (.d .nilp)))) (lf (vi 6)) .nil) (lf (.v (.one (.s (.d h112)))))) (nd (vp 2 0 0) (lf (.v u101)) (lf (vp 2 0 0))))
def m934 : PM AVal := (nd (vi 5) (nn (nd (vi 0) (lf (vi 0)) .nil) (lf (vp 2 0 0))) (nd y74 (lf (.v u103)) (lf (.v (.one (.s (.d (.sl [] true))))))))
def m935 : PM AVal := (nd (.v (.one (.s (.d .nilp)))) m934 (nd (.v (.one (.s (.d (.sl [] true))))) (nd y8 (lf (vb false)) (lf (vp 2 0 0))) (nd y74 (lf (.v (.one (.s (.d h99))))) (lf y919))))
def m936 : PM AVal := (nd (.v (.one (.s (.sl 17263 0 0 1 false)))) (nn (nd (vi 1) (lf (vp 2 0 0)) .nil) (lf (.v (.one (.s (.sl 17263 0 0 1 false)))))) (nd (vi 0) (lf (.v (.one (.s (.sl 864 0 0 1 true))))) (lf (.v (.one (.s (.d h99)))))))
def m937 : PM AVal := (nd (vb false) (nd (vp 2 0 0) (nd (.v (.one (.s (.d .nilp)))) m933 m918) m935) (nd (vi 0) (nd (vi 1) m936 m922) (nd (vi 1) m923 m924)))
def f938 : Fr := ⟨m937, [], none⟩
def h939 : Dat := (.str [3, 83, 4, 3, 69, 221, 222, 108, 0, 0, 0, 0, 0, 0, 0, 0, 0, 0, 0, 0, 0, 0, 0, 0, 0, 0, 0, 0, 0, 0, 0, 0, 0, 0, 0, 0, 0, 0, 0, 0, 0, 0, 0, 0, 0, 0, 0, 0, 0, 0, 0, 0, 0, 0, 0, 0, 0, 0, 0, 0, 0, 0, 0, 0, 0, 0, 0, 0, 0, 0, 0, 0, 0, 0, 0, 0, 0, 0, 0, 0, 0, 0, 0, 0, 0, 0, 0, 0, 0, 0, 0, 0, 0, 0, 0, 0, 0, 0, 0, 0, 0, 0, 0, 0, 0, 0, 0, 0, 0, 0, 0, 0, 0, 0, 0, 0, 0, 0, 0, 0, 0, 0, 0, 0, 0, 0, 0, 0])
def x940 : AObj := (.map (.int .i64) [⟨[(.int .i64 (.ofNat 1))], 0, (.one (.s (.d h252)))⟩, ⟨[(.int .i64 (.ofNat 2))], 1, (.one (.s (.d h253)))⟩, ⟨[(.int .i64 (.ofNat 100))], 2, (.one (.s (.d h254)))⟩, ⟨[(.int .i64 (.ofNat 101))], 3, (.one (.s (.d h255)))⟩, ⟨[(.int .i64 (.ofNat 0))], 4, (.one (.s (.d h939)))⟩, ⟨[(.int .i64 (.ofNat 102))], 5, (.one (.s (.d h256)))⟩, ⟨[(.int .i64 (.ofNat 103))], 6, (.one (.s (.d h257)))⟩] 7)
def x941 : AObj := (.row 216 7 0 [(xi 300), (.s (.mp 0)), (.s (.d (.sl [] true))), (xi 12), (xi 8), (.s (.d (.bool false))), (.s (.d (.int .i64 (.negSucc 19))))])
def m942 : PM AObj := (nn (nn (nd x18 (nd x23 .nil (nn .nil (nn (nn (nn (lf x33) .nil) .nil) .nil))) .nil) (nn .nil (lf x30))) (nn (nn .nil (nn (nn (nn (nn (nn (lf x24) .nil) .nil) .nil) .nil) .nil)) .nil))
def x943 : AObj := (.row 325 4 0 [(xi 2), (xs [101, 241, 114, 27]), (.s (.d h297)), (.s (.d (.bool false)))])
def x944 : AObj := (.row 148 2 0 [(.s (.ptr 18286 0 0)), (.s (.ptr 17686 0 0))])
def m945 : PM AObj := (nn .nil (nn (nn (nn (nn (nn (lf x24) .nil) .nil) .nil) .nil) (nn (nn (nn (nn (lf x723) .nil) .nil) .nil) (nn (nn (nn (lf x944) .nil) .nil) .nil))))
def m946 : PM AObj := (nn (nn (nn (nn (nn .nil (nn (nn (nn (lf x943) .nil) .nil) .nil)) .nil) .nil) (nn .nil (nd x30 (nn (nn (nn (nn (lf x63) .nil) .nil) .nil) .nil) .nil))) (nd x26 m945 (nn (lf x27) .nil)))
def m947 : PM AObj := (nn (nn (nn (nn .nil (lf x24)) (nd x25 .nil (lf x260))) (nn (nn .nil (nd x83 .nil (nn (nn (nn (nn (lf x261) .nil) .nil) .nil) .nil))) .nil)) m946)
def x948 : AObj := (.row 92 2 0 [(.s (.sl 18244 0 0 1 true)), (.s (.mp 18245))])
def m949 : PM AObj := (nd x29 (nn (nn .nil (lf x24)) .nil) (nn (nn .nil (nn .nil (nn (nn (nn (nn (lf x261) .nil) .nil) .nil) (nn (nn (nn (lf x948) .nil) .nil) .nil)))) .nil))
def x950 : AObj := (.row 63 2 0 [(xi 0), (.s (.sl 17998 0 0 1 false))])
def m951 : PM AObj := (nn (nn (nn .nil (lf x30)) (nn .nil (nn .nil (nn .nil (nn (nn (lf x266) .nil) .nil))))) (nd x26 (nn (nn .nil (nn .nil (nn (nn (nn (lf x950) .nil) .nil) .nil))) .nil) .nil))
def x952 : AObj := (.row 126 1 0 [(.s (.d (.int .u64 (.ofNat 1))))])
def m953 : PM AObj := (nn (nn (nn .nil (nn .nil (nn (nn (nn (lf x952) .nil) .nil) .nil))) (nn .nil (nn .nil (nn (nn (nn (lf x220) .nil) .nil) .nil)))) (nn (nd x31 .nil (nn (nn (nn (nn (lf x268) .nil) .nil) .nil) .nil)) .nil))
def x954 : AObj := (.row 126 1 0 [(.s (.d (.int .u64 (.ofNat 2))))])
def m955 : PM AObj := (nn (nn (nn .nil (nn (nn (nn (nn (lf x272) .nil) .nil) .nil) (nn (nn (nn (lf x954) .nil) .nil) .nil))) .nil) (nn (nd x24 .nil (nn (nn (nn (nn (lf x273) .nil) .nil) .nil) .nil)) .nil))
def m956 : PM AObj := (nn (nn m953 (nn (nn (nn (nn (nn .nil (nn (lf x269) .nil)) .nil) .nil) .nil) (nn (nn .nil (nn (nn (nn (nn (lf x270) .nil) .nil) .nil) .nil)) .nil))) (nn m955 (nn (nn (nn (nn (nn .nil (nn (lf x274) .nil)) .nil) .nil) .nil) .nil)))
def x957 : AObj := (.mit (some 18209) 1 [0] 1)
def m958 : PM AObj := (nd x33 (nd x33 (nn .nil (nn .nil (nn .nil (nn (nn (nn (lf x108) .nil) .nil) .nil)))) .nil) (nn (nn .nil (nd x220 .nil (nn .nil (nn (nn (nn (lf x957) .nil) .nil) .nil)))) (nn (nn .nil (nn (nn (nn (nn (lf x24) .nil) .nil) .nil) .nil)) .nil)))
def x959 : AObj := (.row 59 1 0 [(.s (.ptr 17598 0 0))])
def m960 : PM AObj := (nn (nn .nil (nn (nn .nil (nn (nn (nn (lf x959) .nil) .nil) .nil)) (nn (nn (nn (nn (lf x24) .nil) .nil) .nil) .nil))) (nn (nn (nn .nil (nn (nn (nn (lf x27) .nil) .nil) .nil)) .nil) .nil))
def m961 : PM AObj := (nn (nn .nil (nn (nn (nn .nil (nn (nn (nn (lf x24) .nil) .nil) .nil)) .nil) (nd x278 .nil (nn (nn (nn (nn (lf x64) .nil) .nil) .nil) .nil)))) (nn (nn (nn (nn (nn .nil (nn (lf x274) .nil)) .nil) .nil) .nil) (nn (nn .nil (nn (nn (nn (nn (lf x24) .nil) .nil) .nil) .nil)) .nil)))
def m962 : PM AObj := (nn (nn (nn .nil (nn .nil (nn .nil (nn (nn (nn (lf x220) .nil) .nil) .nil)))) (nn .nil (lf x281))) (nn (nn (nn (nn .nil (nn (nn (nn (lf x33) .nil) .nil) .nil)) .nil) (lf x30)) (nn .nil (lf x282))))
def x963 : AObj := (.row 243 3 0 [(xs [3, 3]), (xi 2), (xi 0)])
def m964 : PM AObj := (nn (nn .nil (nd x30 .nil (nn (nn (nn (nn (lf x64) .nil) .nil) .nil) (nn (nn (nn (lf x30) .nil) .nil) .nil)))) (nn .nil (nn .nil (nn (nn (nn (nn (lf x963) .nil) .nil) .nil) .nil))))
def m965 : PM AObj := (nn (nn .nil (nn .nil (nd x284 .nil (nn (nn (nn (nn (lf x33) .nil) .nil) .nil) .nil)))) (nn (nn (nd x24 .nil (nn .nil (nn (nn (nn (lf x950) .nil) .nil) .nil))) (nn (nn (nn (nn (nn (lf x285) .nil) .nil) .nil) .nil) .nil)) .nil))
def x966 : AObj := (.row 243 3 0 [(xs [0, 1, 2]), (xi 3), (xi 0)])
def m967 : PM AObj := (nn (nn (nn (nn .nil (nn (nn (nn (lf x943) .nil) .nil) .nil)) (nn (nn (nn (nn (lf x24) .nil) .nil) .nil) .nil)) .nil) (nn .nil (nn (nn .nil (nn (nn (nn (lf x966) .nil) .nil) .nil)) .nil)))
def m968 : PM AObj := (nn (nd x35 m962 (nn (nn .nil (nn (nn (nn .nil (nn (nn (nn (lf x24) .nil) .nil) .nil)) .nil) .nil)) m964)) (nn m965 (nn (nn (nn (nn .nil (nn (nn (nn (nn (lf x272) .nil) .nil) .nil) .nil)) .nil) .nil) m967)))
def x969 : AObj := (.map .str [⟨[(.str [116])], 0, (.one (.s (.ptr 18247 0 0)))⟩] 1)
def x970 : AObj := (.row 96 4 0 [(xi 1), (xi 5), (xi 0), (.s (.mp 18274))])
def m971 : PM AObj := (nd x38 (nd x39 (nn .nil (nn .nil (nn .nil (nn (nn (nn (lf x969) .nil) .nil) .nil)))) .nil) (nn (nn .nil (nd x723 .nil (nn .nil (nn (nn (nn (lf x970) .nil) .nil) .nil)))) .nil))
def x972 : AObj := (.fro 3 0 [[(.str [105, 100]), (.int .i64 (.ofNat 2)), (.bool true)], [(.str [110, 97, 109, 101]), (.int .i64 (.ofNat 5)), (.bool false)]])
def x973 : AObj := (.row 186 1 0 [(.s (.ptr 17304 0 0))])
def m974 : PM AObj := (nn (nn (nn .nil (nn (nn (nn (nn (lf x272) .nil) .nil) .nil) .nil)) (nn .nil (nn .nil (nn (nn (nn (lf x972) .nil) .nil) .nil)))) (nn (nn (nn (nn (nn (nn (lf x291) .nil) .nil) .nil) .nil) .nil) (nd x292 .nil (nn (nn (nn (nn (lf x973) .nil) .nil) .nil) .nil))))
def m975 : PM AObj := (nn (nn (nn .nil (nn (lf x40) .nil)) (nn (nn (lf x24) (lf x85)) (lf x34))) (nn m974 (nn (nn .nil (nn .nil (nn (nn (nn (nn (lf x927) .nil) .nil) .nil) .nil))) .nil)))
def x976 : AObj := (.row 186 1 0 [(.s (.ptr 17480 0 0))])
def x977 : AObj := (.mit (some 18204) 0 [] 0)
def m978 : PM AObj := (nn (nn (nn (nn .nil (nn (nn (nn (lf x976) .nil) .nil) .nil)) .nil) (nn .nil (nn .nil (nn (nn (nn (lf x977) .nil) .nil) .nil)))) (nd x42 (lf x43) .nil))
def m979 : PM AObj := (nn (nn (nn (nd x46 .nil (nn (nn (nn (nn (lf x298) .nil) .nil) .nil) .nil)) .nil) (nn (lf x40) .nil)) (nn .nil (nn .nil (nn (nn .nil (nn (nn (nn (lf x305) .nil) .nil) .nil)) .nil))))
def m980 : PM AObj := (nn (nn (nn (nn (nn .nil (nd x41 .nil (nn .nil (nn (nn (nn (lf x276) .nil) .nil) .nil)))) .nil) m978) m296) (nn (nn (nn (nn (lf x34) .nil) (nn .nil (nn .nil (nn (nn (nn (nn (lf x973) .nil) .nil) .nil) .nil)))) .nil) m979))
def x981 : AObj := (.row 126 1 0 [(.s (.d (.int .u64 (.ofNat 3))))])
def m982 : PM AObj := (nn (nn (nn (nn (nn .nil (nn (nn (nn (lf x981) .nil) .nil) .nil)) .nil) .nil) .nil) (nn (nn (nn (nn (nn .nil (nn (lf x33) .nil)) .nil) .nil) (nn .nil (nn .nil (nn (nn (nn (lf x30) .nil) .nil) .nil)))) .nil))
def x983 : AObj := (.row 36 3 0 [(xs [116]), (.s (.sl 18225 0 0 2 false)), (xi 1)])
def m984 : PM AObj := (nn m982 (nn (nn (nn .nil (nd x48 .nil (nn .nil (nn (nn (nn (lf x983) .nil) .nil) .nil)))) (nn .nil (nn .nil (nn .nil (nn (nn (lf x301) .nil) .nil))))) .nil))
def x985 : AObj := (.row 96 4 0 [(xi 1), (xi 5), (xi 0), (.s (.mp 18209))])
def m986 : PM AObj := (nn (nn (nn (nn .nil (nn .nil (nn (nn (nn (lf x950) .nil) .nil) .nil))) (nn (nn .nil (nn (nn (nn (lf x985) .nil) .nil) .nil)) .nil)) .nil) (nn (nn (lf x49) .nil) .nil))
def x987 : AObj := (.row 219 2 0 [(xi 0), (.s (.d h939))])
def x988 : AObj := (.mit (some 18245) 0 [] 0)
def m989 : PM AObj := (nd x26 (nn .nil (nn .nil (nn (nn (nn (nn (lf x305) .nil) .nil) .nil) (nn (nn (nn (lf x988) .nil) .nil) .nil)))) (nn (nn .nil (nn (nn (nn (nn (lf x268) .nil) .nil) .nil) .nil)) (nn .nil (nn (nn (nn (nn (lf x981) .nil) .nil) .nil) .nil))))
def x990 : AObj := (.row 186 1 0 [(.s (.ptr 17915 0 0))])
def m991 : PM AObj := (nn (nn .nil (nn (nn (nn (nn (lf x273) .nil) .nil) .nil) .nil)) (nn (nn (nn (nn (nn (lf x298) .nil) .nil) .nil) (nn (nn (nn (lf x990) .nil) .nil) .nil)) .nil))
def m992 : PM AObj := (nn (nn .nil (nn (nn (nn (nn (nn .nil (nn (lf x307) .nil)) .nil) .nil) .nil) (nn (nn .nil (nn (nn (nn (nn (lf x308) .nil) .nil) .nil) .nil)) .nil))) (nd x29 (nn .nil (nd x24 (nn (nn .nil (nn (nn (nn (lf x83) .nil) .nil) .nil)) .nil) .nil)) (nn (nn .nil (lf x220)) m991)))
def m993 : PM AObj := (nn (nn m984 (nn m986 (nn .nil (nn (nn (nn (nn (nn .nil (nn (lf x276) .nil)) .nil) .nil) .nil) .nil)))) (nn (nd x33 m304 (nn (nn .nil (nn (nn (nn .nil (nn (nn (nn (lf x987) .nil) .nil) .nil)) .nil) .nil)) m989)) m992))
def m994 : PM AObj := (nn (nn (nd x288 (nn (nn (nn .nil (nn .nil (lf x220))) (nn (nn .nil (nn (nn (nn (nn (nn (lf x289) .nil) .nil) .nil) .nil) .nil)) .nil)) m971) m975) m980) m993)
def x995 : AObj := (.row 79 3 0 [(.s (.ptr 18287 0 0)), (.s (.ptr 1 0 0)), (xi 100)])
def x996 : AObj := (.row 305 8 0 [(.s (.ptr 1 0 0)), (xi 0), (xi 98), (xi 4), (xi 3), (xi 0), (.s (.d (.sl [] true))), (.s (.d (.bool false)))])
def m997 : PM AObj := (nn (nn .nil (nn (nn (nn (nn .nil (nn (lf x274) .nil)) .nil) .nil) (nd x58 .nil (nn (nn (nn (nn (lf x996) .nil) .nil) .nil) .nil)))) (nn (nn (nn .nil (nn (nn (nn (nn (lf x24) .nil) .nil) .nil) .nil)) (nn (nn (nn (nn (nn (lf x305) .nil) .nil) .nil) .nil) .nil)) .nil))
def x998 : AObj := (.row 96 4 0 [(xi 0), (.s (.d (.int .i64 (.negSucc 0)))), (xi 0), (.s (.mp 18209))])
def m999 : PM AObj := (nn (nn m997 (nd x54 (nd x54 (nn .nil (nn .nil (nn .nil (nn (nn (nn (lf x998) .nil) .nil) .nil)))) .nil) (nn (nn .nil (lf x108)) .nil))) (nn (nn .nil (nn (nn .nil (lf x87)) .nil)) m820))
def h1000 : Dat := (.str [2, 0, 0, 101, 241, 114, 27, 4, 0, 1, 14, 1, 3, 82, 0, 3, 2, 23, 0, 0, 21, 1, 5, 1, 3, 16, 1, 116, 1, 2, 2, 105, 100, 2, 1, 4, 110, 97, 109, 101, 5, 3, 6, 0, 0, 3, 0, 1, 2])
def x1001 : AObj := (.row 243 3 0 [(.s (.d h1000)), (xi 1), (xi 0)])
def m1002 : PM AObj := (nn (nn (nn .nil (lf x41)) (nn .nil (lf x315))) (nn (nn (nn (nn .nil (nn (nn (nn (lf x1001) .nil) .nil) .nil)) .nil) .nil) (nn (lf x43) .nil)))
def x1003 : AObj := (.row 243 3 0 [(xs [2, 2]), (xi 2), (xi 0)])
def m1004 : PM AObj := (nd x24 (nd x24 (nn (nd x34 .nil (nn .nil (nn (nn (nn (lf x64) .nil) .nil) .nil))) .nil) (nn .nil (nn .nil (nn (nn (nn (nn (lf x1003) .nil) .nil) .nil) .nil)))) .nil)
def x1005 : AObj := (.row 102 4 0 [(xi 5), (xs [116]), (.s (.sl 18225 0 0 2 false)), (xi 1)])
def m1006 : PM AObj := (nn (nn .nil (nn (nn (nn (nn (lf x298) .nil) .nil) .nil) (nn (nn (nn (lf x276) .nil) .nil) .nil))) (nn .nil (nn .nil (nn (nn (nn (lf x1005) .nil) .nil) .nil))))
def m1007 : PM AObj := (nn (nn m1002 (nn (nn (nn .nil (lf x55)) (lf x24)) (nn (nn (nn (nn .nil (nn (nn (nn (lf x943) .nil) .nil) .nil)) .nil) .nil) .nil))) (nd x56 m1004 (nn (nn m1006 (nn (lf x40) .nil)) (nn .nil (nn .nil (nn (nn .nil (nn (nn (nn (lf x305) .nil) .nil) .nil)) .nil))))))
def x1008 : AObj := (.row 186 1 0 [(.s (.ptr 17387 0 0))])
def m1009 : PM AObj := (nn (nn (nn (nn (nn .nil (nn (nn (nn (lf x1008) .nil) .nil) .nil)) .nil) .nil) .nil) (nn (nn (nn (nn (nn .nil (nn (lf x318) .nil)) .nil) .nil) (nn .nil (nn .nil (nn (nn (nn (lf x1005) .nil) .nil) .nil)))) .nil))
def m1010 : PM AObj := (nn (nn (nn .nil (nd x33 .nil (nn .nil (nn (nn (nn (lf x108) .nil) .nil) .nil)))) .nil) (nn .nil (nn .nil (nn (nn (nn (nn (nn (lf x321) .nil) .nil) .nil) .nil) .nil))))
def m1011 : PM AObj := (nn (nn (nn .nil (nn (nn .nil (nn (nn (nn (lf x30) .nil) .nil) .nil)) .nil)) (nn .nil (nn (nn (nn (nn (nn (lf x45) .nil) .nil) .nil) .nil) .nil))) (nd x27 (nn (lf x34) (nn (nn (nn (nn (nn (lf x27) .nil) .nil) .nil) .nil) (nn (nn (nn (nn (lf x24) .nil) .nil) .nil) .nil))) .nil))
def x1012 : AObj := (.row 92 2 0 [(.s (.sl 18282 0 0 1 false)), (.s (.mp 18283))])
def m1013 : PM AObj := (nd x24 (nn .nil (nd x58 .nil (nn (nn (nn (nn (lf x276) .nil) .nil) .nil) (nn (nn (nn (lf x1012) .nil) .nil) .nil)))) (nn .nil (nn .nil (nn (nn (nn (nn (lf x1008) .nil) .nil) .nil) .nil))))
def m1014 : PM AObj := (nn (nn (nn .nil (nn .nil (nn .nil (nn (nn (nn (lf x343) .nil) .nil) .nil)))) (nn (nn .nil (nn (nn (nn (nn (lf x24) .nil) .nil) .nil) .nil)) .nil)) (nn .nil (nn (nn .nil (nn (nn (nn (nn (lf x24) .nil) .nil) .nil) .nil)) .nil)))
def m1015 : PM AObj := (nn (nn (nn .nil (nn (nn (nn (nn (lf x328) .nil) .nil) .nil) .nil)) (lf x329)) (nn .nil (nn (nn .nil (nn (nn (nn (lf x990) .nil) .nil) .nil)) .nil)))
def m1016 : PM AObj := (nn (nd x29 m326 (nn (nn .nil (nn (nn (nn .nil (nn (nn (nn (lf x987) .nil) .nil) .nil)) .nil) .nil)) m1013)) (nn m1014 (nd x38 (nd x59 .nil (nn (nn .nil (nn (nn (nn (nn (lf x24) .nil) .nil) .nil) .nil)) .nil)) m1015)))
def x1017 : AObj := (.mit (some 17684) 0 [] 0)
def x1018 : AObj := (.map .str [⟨[(.str [116])], 0, (.one (.s (.ptr 18284 0 0)))⟩] 1)
def m1019 : PM AObj := (nd x29 (nd x29 (nn .nil (nn .nil (nn .nil (nn (nn (nn (lf x1017) .nil) .nil) .nil)))) (nn .nil (lf x333))) (nn (nn .nil (nd x723 .nil (nn .nil (nn (nn (nn (lf x1018) .nil) .nil) .nil)))) .nil))
def x1020 : AObj := (.row 268 1 0 [(.s (.ptr 17598 0 0))])
def m1021 : PM AObj := (nn (nn (nn .nil (nn .nil (nn (nn (nn (lf x276) .nil) .nil) .nil))) .nil) (nn (nd x43 (nn (nn (nn (nn (lf x335) .nil) .nil) .nil) .nil) .nil) (nn .nil (nn (nn (nn (nn (lf x954) .nil) .nil) .nil) .nil))))
def m1022 : PM AObj := (nn (nn (nn (nn .nil (nn (nn .nil (nn (nn (nn (lf x1020) .nil) .nil) .nil)) .nil)) .nil) (nn (nn (lf x49) .nil) .nil)) (nn m1021 (nn (nn (nn (nn (nn .nil (nn (lf x24) .nil)) .nil) .nil) .nil) .nil)))
def m1023 : PM AObj := (nn (nn (nn .nil (nd x41 .nil (nn .nil (nn (nn (nn (lf x276) .nil) .nil) .nil)))) (nn .nil (lf x337))) (nn (nn (nn (nn .nil (nn (nn (nn (lf x954) .nil) .nil) .nil)) .nil) (lf x62)) (lf x63)))
def x1024 : AObj := (.row 102 4 0 [(xi 5), (xs [116]), (.s (.d h100)), (xi 1)])
def m1025 : PM AObj := (nn (nn .nil (nn .nil (nn (nn (nn (nn (nn (lf x340) .nil) .nil) .nil) .nil) (nn (nn (nn (nn (lf x954) .nil) .nil) .nil) .nil)))) (nn (nn .nil (nn (nn (nn (nn (nn (lf x307) .nil) .nil) .nil) .nil) .nil)) .nil))
def m1026 : PM AObj := (nn (nn (nn (nn .nil (nn (nn (nn (nn (lf x272) .nil) .nil) .nil) .nil)) .nil) .nil) (nn .nil (nn .nil (nn (nn .nil (nn (nn (nn (lf x950) .nil) .nil) .nil)) .nil))))
def m1027 : PM AObj := (nn (nd x54 m1023 (nn .nil (nn (nd x24 .nil (nd x231 .nil (nn (nn (nn (nn (lf x338) .nil) .nil) .nil) (nn (nn (nn (lf x1024) .nil) .nil) .nil)))) .nil))) (nn m1025 m1026))
def m1028 : PM AObj := (nn (nn .nil (nd x64 (nn (nn (nn (nn (lf x344) .nil) .nil) .nil) .nil) .nil)) (nn (nn (nn .nil (nn (nn (nn (lf x987) .nil) .nil) .nil)) .nil) (nn .nil (nn .nil (nn (nn (lf x345) .nil) .nil)))))
def x1029 : AObj := (.row 65 6 0 [(.s (.ptr 17598 0 0)), (.s (.ptr 17682 0 0)), (.s (.ptr 17685 0 0)), (xi 0), (.s (.sl 17998 0 0 1 false)), (.s (.d (.bool false)))])
def m1030 : PM AObj := (nn (nn (nn .nil (nn .nil (nn (nn (nn (lf x990) .nil) .nil) .nil))) (nn (nn .nil (nn (nn (nn (lf x1029) .nil) .nil) .nil)) .nil)) (nn (lf x24) .nil))
def m1031 : PM AObj := (nn (nn (nn .nil (nn (nn (nn (nn (lf x24) .nil) .nil) .nil) (nn (nn (nn (lf x990) .nil) .nil) .nil))) .nil) (nn .nil (nn (nn (nn (nn (nn (lf x298) .nil) .nil) .nil) .nil) .nil)))
def m1032 : PM AObj := (nn (nn m1030 (nn (nn (lf x49) .nil) .nil)) (nn m1031 (nn (nn (nn (nn (nn .nil (nn (lf x276) .nil)) .nil) (nn (nn (nn (nn (lf x308) .nil) .nil) .nil) .nil)) .nil) .nil)))
def m1033 : PM AObj := (nn (nn (nn .nil (nn .nil (nn (nn (nn (lf x276) .nil) .nil) .nil))) (nd x66 .nil (nn (nn (nn (nn (lf x261) .nil) .nil) .nil) .nil))) (nn (lf x24) .nil))
def x1034 : AObj := (.row 56 6 0 [(.s (.ptr 17686 0 0)), (xs []), (.s (.d (.bool false))), (xi 0), (xi 0), (xi 0)])
def m1035 : PM AObj := (nd x26 (nn .nil (nn .nil (nn (nn (nn (nn (lf x723) .nil) .nil) .nil) (nn (nn (nn (lf x1034) .nil) .nil) .nil)))) (nn (nn .nil (nn (nn (nn (nn (lf x268) .nil) .nil) .nil) .nil)) (nn .nil (nn (nn (nn (nn (lf x33) .nil) .nil) .nil) .nil))))
def m1036 : PM AObj := (nd x56 (nd x56 .nil (nn (nn (nn .nil (nn (nn (nn (lf x987) .nil) .nil) .nil)) .nil) (nd x333 (nn (nn (nn (nn (lf x24) .nil) .nil) .nil) .nil) .nil))) m1035)
def x1037 : AObj := (.row 114 3 0 [(.s (.ptr 18208 0 0)), (xi 5), (.s (.mp 18204))])
def m1038 : PM AObj := (nn (nn (nn (nn .nil (nn (nn (nn (nn (lf x350) .nil) .nil) .nil) .nil)) (nn .nil (nn .nil (nn (nn (nn (lf x1037) .nil) .nil) .nil)))) .nil) (nn (nn (nn (nn (nn .nil (nn (lf x351) .nil)) .nil) .nil) .nil) (nn (nn .nil (nn (nn (nn (nn (lf x308) .nil) .nil) .nil) .nil)) .nil)))
def x1039 : AObj := (.row 263 5 0 [(.s (.ptr 1 0 0)), (.s (.ptr 17280 0 0)), (xi 100), (.s (.mp 17597)), (.s (.d (.bool false)))])
def m1040 : PM AObj := (nn (nn .nil (nn (nn (nn (nn (lf x273) .nil) .nil) .nil) .nil)) (nn (nn (nn (nn (nn (lf x298) .nil) .nil) .nil) (nn (nn (nn (lf x29) .nil) .nil) .nil)) .nil))
def m1041 : PM AObj := (nn (nn (nn (nn (nn .nil (nn .nil (nn (nn (nn (nn (lf x270) .nil) .nil) .nil) .nil))) (nd x24 .nil (lf x108))) m1033) m1036) (nn m1038 (nn (nn .nil (nn (nd x24 (nn .nil (nn (nn (nn (lf x1039) .nil) .nil) .nil)) .nil) .nil)) (nd x353 (nn .nil (lf x354)) m1040))))
def m1042 : PM AObj := (nn (nn (nn (nd x35 (nd x59 (nn (nn (nn .nil (nn (nn (nn (lf x64) .nil) .nil) .nil)) .nil) .nil) (nn .nil (lf x343))) .nil) (nn m1028 .nil)) m1032) m1041)
def m1043 : PM AObj := (nd x940 (nd x941 (nn (nn (nn (nn m942 .nil) m947) (nn (nn m949 m951) m956)) (nn (nn (nn m277 m958) (nn (nn m960 (nn (nn (lf x34) .nil) .nil)) m961)) m968)) m994) (nd x995 (nn (nn m999 m1007) (nn (nn (nn m1009 m1010) (nn m1011 m324)) m1016)) (nn (nn (nn (nd x24 m332 m1019) m1022) m1027) m1042)))
def s1044 : St := ⟨m1043, 18288, 0⟩
theorem t932 : PC (evO badP allP Ot A 1000000 199) 1000000 k931 f926 s930 .normal f938 s1044 := fun K => by kernel_rfl
def k1045 : ACode := .region [V 67 1,
Q 68 (.build zl10 [(0, 1, (ci 1)), (1, 1, (cs [116])), (3, 1, (ci 5))]),
E 69 (.callf 28 [(.t 67), (.t 68)]),
V 66 69,
Q 70 (.extract 0 (.t 66)),
Q 71 (.extract 1 (.t 66)),
V 16 70,
V 17 71]
def m1047 : PM AVal := (nd (.v (.one (.s (.d h99)))) (nd (vi 0) (nd (.v (.one (.s (.d .nilp)))) (lf (vi 6)) .nil) (lf (.v (.one (.s (.d h112)))))) (nd (vp 2 0 0) (nd (.v u101) (lf (vi 0)) .nil) (lf (vp 2 0 0))))
def m1048 : PM AVal := (nd (vi 0) (nn (nd (vb false) (lf (vp 2 0 0)) .nil) (lf (vp 2 0 0))) (nd (.v (.one (.s (.d .nilp)))) (lf (vp 2 0 0)) (lf (vp 2 0 0))))
def m1049 : PM AVal := (nd (vi 5) (nd (vi 0) (nd (vi 0) (lf (vi 0)) .nil) (lf (vp 2 0 0))) (nd y74 (lf (.v u103)) (lf (.v (.one (.s (.d (.sl [] true))))))))
def y1050 : AVal := (.tup [(.one (.s (.d (.sl [] false)))), (.one (xi 0))])
def m1051 : PM AVal := (nd (.v (.one (.s (.d (.sl [] true))))) (nd y8 (nd (vb false) (lf y1050) .nil) (lf (vp 2 0 0))) (nd y74 (lf (.v (.one (.s (.d h99))))) (lf y919)))
def m1052 : PM AVal := (nd (.v (.one (.s (.sl 17263 0 0 1 false)))) (nd (.v (.one (.s (.d (.sl [] false))))) (nd (vi 1) (lf (vp 2 0 0)) .nil) (lf (.v (.one (.s (.sl 17263 0 0 1 false)))))) (nd (vi 0) (lf (.v (.one (.s (.sl 864 0 0 1 true))))) (lf (.v (.one (.s (.d h99)))))))
def m1053 : PM AVal := (nd (.v (.one (.s (.d (.sl [] true))))) (nn (nd (vp 2 0 0) (lf (.v u921)) .nil) (lf (vi 6))) (nd (vi 1) (lf (.v (.one (.s (.d h99))))) (lf (.v u921))))
def m1054 : PM AVal := (nd (vi 6) (nn (nd (vb false) (lf y1050) .nil) (lf (vi 5))) (nd y74 (lf (.v (.one (.s (.d h99))))) (lf y919)))
def m1055 : PM AVal := (nd (vi 6) (nd y8 (nd (vb false) (lf (.v (.one (.s (.d (.sl [] false)))))) .nil) (lf (vi 0))) (nd y74 (lf (vs [0, 0, 0, 21, 1])) (lf (.v (.one (.s (.d (.sl [] true))))))))
def m1056 : PM AVal := (nd (vb false) (nd (vp 2 0 0) (nd (.v (.one (.s (.d .nilp)))) m1047 m1048) (nd (.v (.one (.s (.d .nilp)))) m1049 m1051)) (nd (vi 0) (nd (vi 1) m1052 m1053) (nd (vi 1) m1054 m1055)))
def f1057 : Fr := ⟨m1056, [], none⟩
def x1058 : AObj := (.row 96 4 0 [(xi 1), (xi 5), (xi 0), (.s (.mp 18304))])
def m1059 : PM AObj := (nn (nd x18 (nd x23 .nil (nn .nil (nn (nn (nn (lf x33) .nil) .nil) .nil))) .nil) (nn .nil (nd x30 .nil (nn .nil (nn (nn (nn (lf x1058) .nil) .nil) .nil)))))
def m1060 : PM AObj := (nn (nn (nn .nil (nn .nil (nn .nil (nn (nn (nn (lf x220) .nil) .nil) .nil)))) (nn .nil (nd x281 .nil (nn .nil (nn (nn (nn (lf x988) .nil) .nil) .nil))))) (nn (nn (nn (nn .nil (nn (nn (nn (lf x33) .nil) .nil) .nil)) .nil) (lf x30)) (nn .nil (lf x282))))
def m1061 : PM AObj := (nn (nd x35 m1060 (nn (nn .nil (nn (nn (nn .nil (nn (nn (nn (lf x24) .nil) .nil) .nil)) .nil) .nil)) m964)) (nn m965 (nn (nn (nn (nn .nil (nn (nn (nn (nn (lf x272) .nil) .nil) .nil) .nil)) .nil) .nil) m967)))
def m1062 : PM AObj := (nn (nn (nn (nn (nn m1059 (nn (nn .nil (nn (nn (nn (nn (nn (lf x24) .nil) .nil) .nil) .nil) .nil)) .nil)) .nil) m947) (nn (nn m949 m951) m956)) (nn (nn (nn m277 m958) (nn (nn m960 (nn (nn (lf x34) .nil) .nil)) m961)) m1061))
def m1063 : PM AObj := (nn (nn .nil (nn .nil (nd x220 .nil (nn .nil (nn (nn (nn (lf x957) .nil) .nil) .nil))))) (nn (nn .nil (nn (nn (nn (nn (nn (lf x289) .nil) .nil) .nil) .nil) .nil)) .nil))
def m1064 : PM AObj := (nn (nn (nn .nil (nd x41 .nil (nn .nil (nn (nn (nn (lf x276) .nil) .nil) .nil)))) (nn .nil (nn .nil (nn .nil (nn (nn (nn (lf x30) .nil) .nil) .nil))))) m978)
def m1065 : PM AObj := (nn (nd x288 (nn m1063 m971) m975) (nn (nn m1064 m296) (nn (nn (nn (nn (lf x34) .nil) (nn .nil (nn .nil (nn (nn (nn (nn (lf x973) .nil) .nil) .nil) .nil)))) .nil) m979)))
def x1066 : AObj := (.map .str [⟨[(.str [116])], 0, (.one (.s (.ptr 18314 0 0)))⟩] 1)
def m1067 : PM AObj := (nn (nn (nn (nn .nil (nn (lf x274) .nil)) .nil) .nil) (nd x58 .nil (nn (nn (nn (nn (lf x996) .nil) .nil) .nil) (nn (nn (nn (lf x1066) .nil) .nil) .nil))))
def m1068 : PM AObj := (nn (nn .nil m1067) (nn (nn (nn .nil (nn (nn (nn (nn (lf x24) .nil) .nil) .nil) .nil)) (nn (nn (nn (nn (nn (lf x305) .nil) .nil) .nil) .nil) .nil)) .nil))
def m1069 : PM AObj := (nn (nn (lf x24) (nn (nn (nn (nn (nn (nn (lf x313) .nil) .nil) .nil) .nil) .nil) .nil)) (nn (nn .nil (nn .nil (nn (nn (nn (nn (lf x819) .nil) .nil) .nil) (nn (nn (nn (lf x927) .nil) .nil) .nil)))) .nil))
def m1070 : PM AObj := (nn (nn m1068 (nd x54 (nd x54 (nn .nil (nn .nil (nn .nil (nn (nn (nn (lf x998) .nil) .nil) .nil)))) .nil) (nn (nn .nil (lf x108)) .nil))) (nn (nn .nil (nn (nn .nil (lf x87)) .nil)) m1069))
def m1071 : PM AObj := (nn (nn (nn .nil (lf x41)) (nn .nil (nd x315 .nil (nn .nil (nn (nn (nn (lf x1024) .nil) .nil) .nil))))) (nn (nn (nn (nn .nil (nn (nn (nn (lf x1001) .nil) .nil) .nil)) .nil) .nil) (nn (lf x43) .nil)))
def m1072 : PM AObj := (nn (nn m1071 (nn (nn (nn .nil (lf x55)) (lf x24)) (nn (nn (nn (nn .nil (nn (nn (nn (lf x943) .nil) .nil) .nil)) .nil) .nil) .nil))) (nd x56 m1004 (nn (nn m1006 (nn (lf x40) .nil)) (nn .nil (nn .nil (nn (nn .nil (nn (nn (nn (lf x305) .nil) .nil) .nil)) .nil))))))
def x1073 : AObj := (.row 92 2 0 [(.s (.sl 18312 0 0 1 false)), (.s (.mp 18313))])
def m1074 : PM AObj := (nn (nn .nil (nd x41 .nil (nn .nil (nn (nn (nn (lf x276) .nil) .nil) .nil)))) (nn .nil (nd x337 .nil (nn .nil (nn (nn (nn (lf x1073) .nil) .nil) .nil)))))
def m1075 : PM AObj := (nd x54 (nn m1074 (nn (nn (nn (nn .nil (nn (nn (nn (lf x954) .nil) .nil) .nil)) .nil) (lf x62)) (lf x63))) (nn .nil (nn (nd x24 .nil (nd x231 .nil (nn (nn (nn (nn (lf x338) .nil) .nil) .nil) (nn (nn (nn (lf x1024) .nil) .nil) .nil)))) .nil)))
def m1076 : PM AObj := (nd x940 (nd x941 m1062 (nn m1065 m993)) (nd x995 (nn (nn m1070 m1072) (nn (nn (nn m1009 m1010) (nn m1011 m324)) m1016)) (nn (nn (nn (nd x24 m332 m1019) m1022) (nn m1075 (nn m1025 m1026))) m1042)))
def s1077 : St := ⟨m1076, 18316, 0⟩
theorem t1046 : PC (evO badP allP Ot A 1000000 199) 1000000 k1045 f938 s1044 .normal f1057 s1077 := fun K => by kernel_rfl
def r1078 : List AOper := [V 73 1]
def m1079 : PM AVal := (nd (vi 5) (nd (vi 0) (nd (vi 0) (lf (vi 0)) .nil) (lf (vp 2 0 0))) (nd y74 (nd (.v u103) (lf (vp 2 0 0)) .nil) (lf (.v (.one (.s (.d (.sl [] true))))))))
def m1080 : PM AVal := (nd (vb false) (nd (vp 2 0 0) (nd (.v (.one (.s (.d .nilp)))) m1047 m1048) (nd (.v (.one (.s (.d .nilp)))) m1079 m1051)) (nd (vi 0) (nd (vi 1) m1052 m1053) (nd (vi 1) m1054 m1055)))
def f1081 : Fr := ⟨m1080, [], none⟩
theorem o1082 : PX (evO badP allP Ot A 1000000 199) r1078 f1057 s1077 f1081 s1077 := fun r K => by kernel_rfl
def r1083 : List AOper := [E 74 (.callf 29 [(.t 73), (ci 5)])]
def f1085 : Fr := ⟨(nd (vp 2 0 0) (lf (vi 5)) .nil), [], none⟩
def f1086 : Fr := ⟨(nd (vp 2 0 0) (nd (vi 5) .nil (lf (vi 0))) (nn (lf (vi 0)) .nil)), [], none⟩
theorem t1084 : PC (evO badP allP Ot A 1000000 198) 1000000 k555 f1085 s1077 .normal f1086 s1077 := fun K => by kernel_rfl
def k1087 : ACode := .seq (
.region [V 7 0,
E 8 (.callf 75 [(.t 7)]),
V 6 8]) (
.seq (
.region [V 9 6,
Q 10 (.bin .neq .scalar (.t 9) (ci 0))]) (
.cond (.t 10) (
.seq (
.region [V 11 6,
Q 4 (.mov (ci 0)),
V 5 11]) (
.ret)) (
.skip)))
def m1089 : PM AVal := (nd (vp 2 0 0) (nd (vi 5) (nn (lf (vp 2 0 0)) .nil) (nd (vi 0) (lf (vi 0)) .nil)) (nn (nd (vi 0) (lf (vi 0)) .nil) (nd (vi 0) (lf (vb false)) .nil)))
def f1090 : Fr := ⟨m1089, [], none⟩
theorem t1088 : PC (evO badP allP Ot A 1000000 198) 1000000 k1087 f1086 s1077 .normal f1090 s1077 := fun K => by kernel_rfl
def r1091 : List AOper := [V 12 0, Q 13 (.nilck (.t 12)), Q 14 (.faddr 0 (.t 13)), Q 15 (.load false 1 (.t 14)), Q 16 (.nilck (.t 15)), Q 17 (.faddr 1 (.t 16)), Q 18 (.load false 1 (.t 17)), V 19 1]
def m1092 : PM AVal := (nd (vi 5) (nn (nd (vp 2 0 0) (lf (vp 18287 0 0)) .nil) (nn (lf (vi 5)) .nil)) (nd (vi 0) (nd (vi 0) (lf (vp 18287 0 1)) .nil) (lf (vp 2 0 0))))
def m1093 : PM AVal := (nn (nd (vi 0) (nd (vi 0) (lf (vp 18287 0 0)) .nil) (lf (vp 2 0 0))) (nd (vi 0) (nd (vb false) (lf (vp 17686 0 0)) .nil) (lf (vp 2 0 0))))
def f1094 : Fr := ⟨(nd (vp 2 0 0) m1092 m1093), [], none⟩
theorem o1095 : PX (evO badP allP Ot A 1000000 198) r1091 f1090 s1077 f1094 s1077 := fun r K => by kernel_rfl
def r1096 : List AOper := [E 20 (.callf 77 [(.t 18), (.t 19)])]
def f1098 : Fr := ⟨(nd (vp 17686 0 0) (lf (vi 5)) .nil), [], none⟩
def f1099 : Fr := ⟨(nd (vp 17686 0 0) (nd (vi 5) .nil (lf (vi 0))) (nn (lf (vi 0)) .nil)), [], none⟩
theorem t1097 : PC (evO badP allP Ot A 1000000 197) 1000000 k555 f1098 s1077 .normal f1099 s1077 := fun K => by kernel_rfl
def k1100 : ACode := .seq (
.region [V 11 0,
E 12 (.callf 132 [(.t 11)]),
V 6 12]) (
.seq (
.region [V 13 6,
Q 14 (.bin .neq .scalar (.t 13) (ci 0))]) (
.cond (.t 14) (
.seq (
.region [V 15 6,
Q 4 (.mov (ci 0)),
V 5 15]) (
.ret)) (
.skip)))
def m1102 : PM AVal := (nd (vp 17686 0 0) (nd (vi 5) (nn .nil (lf (vp 17686 0 0))) (nd (vi 0) .nil (lf (vi 0)))) (nn (nd (vi 0) .nil (lf (vi 0))) (nd (vi 0) .nil (lf (vb false)))))
def f1103 : Fr := ⟨m1102, [], none⟩
theorem t1101 : PC (evO badP allP Ot A 1000000 197) 1000000 k1100 f1099 s1077 .normal f1103 s1077 := fun K => by kernel_rfl
def k1104 : ACode := .region [V 16 0,
Q 17 (.nilck (.t 16)),
Q 18 (.faddr 2 (.t 17)),
Q 19 (.load false 1 (.t 18)),
E 20 (.callf 19 [(.t 19)]),
V 7 20]
def m1106 : PM AVal := (nd (vi 5) (nn (lf (vp 18316 0 0)) (nd (vp 17686 0 0) (lf (vp 17685 0 0)) .nil)) (nd (vi 0) (nn (lf (vp 17686 0 0)) .nil) (lf (vi 0))))
def m1107 : PM AVal := (nn (nd (vi 0) (nn (lf (vp 17686 0 0)) .nil) (nd (vi 0) (lf (vp 18316 0 0)) .nil)) (nd (vi 0) (nn (lf (vp 17686 0 2)) .nil) (lf (vb false))))
def f1108 : Fr := ⟨(nd (vp 17686 0 0) m1106 m1107), [], none⟩
def x1109 : AObj := (.row 92 2 0 [(.s (.sl 18325 0 0 1 false)), (.s (.mp 18326))])
def m1110 : PM AObj := (nn (nn (nn .nil (nn .nil (nn (nn (nn (lf x952) .nil) .nil) .nil))) (nn .nil (nn .nil (nn (nn (nn (lf x220) .nil) .nil) .nil)))) (nn (nd x31 .nil (nn (nn (nn (nn (lf x268) .nil) .nil) .nil) .nil)) (nn .nil (nn .nil (nn (nn (nn (lf x1109) .nil) .nil) .nil)))))
def m1111 : PM AObj := (nn (nn m1110 (nn (nn (nn (nn (nn .nil (nn (lf x269) .nil)) .nil) .nil) .nil) (nn (nn .nil (nn (nn (nn (nn (lf x270) .nil) .nil) .nil) .nil)) .nil))) (nn m955 (nn (nn (nn (nn (nn .nil (nn (lf x274) .nil)) .nil) .nil) .nil) .nil)))
def m1112 : PM AObj := (nn (nn (nn (nn (nn m1059 (nn (nn .nil (nn (nn (nn (nn (nn (lf x24) .nil) .nil) .nil) .nil) .nil)) .nil)) .nil) m947) (nn (nn m949 m951) m1111)) (nn (nn (nn m277 m958) (nn (nn m960 (nn (nn (lf x34) .nil) .nil)) m961)) m1061))
def m1113 : PM AObj := (nn (nn (nn .nil (nn .nil (nn (nn (nn (lf x950) .nil) .nil) .nil))) (nn (nn .nil (nn (nn (nn (lf x985) .nil) .nil) .nil)) .nil)) (nn .nil (nn .nil (nn .nil (nn (nn (nn (lf x1024) .nil) .nil) .nil)))))
def x1114 : AObj := (.map .str [⟨[(.str [116])], 0, (.one (.s (.ptr 18327 0 0)))⟩] 1)
def m1115 : PM AObj := (nn (nn (nn .nil (nn .nil (nn (nn (nn (nn (lf x270) .nil) .nil) .nil) .nil))) (nn .nil (nd x108 .nil (nn .nil (nn (nn (nn (lf x1114) .nil) .nil) .nil))))) (nn (nn .nil (nd x303 .nil (nn (nn (nn (nn (lf x261) .nil) .nil) .nil) .nil))) .nil))
def m1116 : PM AObj := (nn (nn m984 (nn (nn m1113 (nn (nn (lf x49) .nil) .nil)) (nn .nil (nn (nn (nn (nn (nn .nil (nn (lf x276) .nil)) .nil) .nil) .nil) .nil)))) (nn (nd x33 m1115 (nn (nn .nil (nn (nn (nn .nil (nn (nn (nn (lf x987) .nil) .nil) .nil)) .nil) .nil)) m989)) m992))
def m1117 : PM AObj := (nd x24 (nn (nd x34 .nil (nn .nil (nn (nn (nn (lf x64) .nil) .nil) .nil))) .nil) (nn .nil (nn .nil (nn (nn (nn (nn (lf x1003) .nil) .nil) .nil) (nn (nn (nn (lf x988) .nil) .nil) .nil)))))
def m1118 : PM AObj := (nn (nn m1071 (nn (nn (nn .nil (lf x55)) (lf x24)) (nn (nn (nn (nn .nil (nn (nn (nn (lf x943) .nil) .nil) .nil)) .nil) .nil) .nil))) (nd x56 (nd x24 m1117 .nil) (nn (nn m1006 (nn (lf x40) .nil)) (nn .nil (nn .nil (nn (nn .nil (nn (nn (nn (lf x305) .nil) .nil) .nil)) .nil))))))
def x1119 : AObj := (.row 96 4 0 [(xi 1), (xi 5), (xi 0), (.s (.mp 18317))])
def m1120 : PM AObj := (nn (nn .nil (nn .nil (nd x325 .nil (nn .nil (nn (nn (nn (lf x1119) .nil) .nil) .nil))))) (nn (nn (lf x49) (nd x58 .nil (nn (nn (nn (nn (lf x24) .nil) .nil) .nil) .nil))) (nn .nil (lf x274))))
def m1121 : PM AObj := (nn (nd x29 m1120 (nn (nn .nil (nn (nn (nn .nil (nn (nn (nn (lf x987) .nil) .nil) .nil)) .nil) .nil)) m1013)) (nn m1014 (nd x38 (nd x59 .nil (nn (nn .nil (nn (nn (nn (nn (lf x24) .nil) .nil) .nil) .nil)) .nil)) m1015)))
def m1122 : PM AObj := (nn (nn (nn .nil (nn .nil (nn (nn (nn (lf x990) .nil) .nil) .nil))) (nn (nn .nil (nn (nn (nn (lf x1029) .nil) .nil) .nil)) .nil)) (nn (lf x24) (nn .nil (nn .nil (nn (nn (nn (lf x30) .nil) .nil) .nil)))))
def m1123 : PM AObj := (nn (nn m1122 (nn (nn (lf x49) .nil) .nil)) (nn m1031 (nn (nn (nn (nn (nn .nil (nn (lf x276) .nil)) .nil) (nn (nn (nn (nn (lf x308) .nil) .nil) .nil) .nil)) .nil) .nil)))
def m1124 : PM AObj := (nn (nn .nil (nn .nil (nn (nn (nn (nn (lf x270) .nil) .nil) .nil) .nil))) (nd x24 .nil (nd x108 .nil (nn .nil (nn (nn (nn (lf x957) .nil) .nil) .nil)))))
def m1125 : PM AObj := (nn (nn (nn m1124 m1033) m1036) (nn m1038 (nn (nn .nil (nn (nd x24 (nn .nil (nn (nn (nn (lf x1039) .nil) .nil) .nil)) .nil) .nil)) (nd x353 (nn .nil (lf x354)) m1040))))
def m1126 : PM AObj := (nn (nn (nn (nd x35 (nd x59 (nn (nn (nn .nil (nn (nn (nn (lf x64) .nil) .nil) .nil)) .nil) .nil) (nn .nil (lf x343))) .nil) (nn m1028 .nil)) m1123) m1125)
def m1127 : PM AObj := (nd x940 (nd x941 m1112 (nn m1065 m1116)) (nd x995 (nn (nn m1070 m1118) (nn (nn (nn m1009 m1010) (nn m1011 m324)) m1121)) (nn (nn (nn (nd x24 m332 m1019) m1022) (nn m1075 (nn m1025 m1026))) m1126)))
def s1128 : St := ⟨m1127, 18329, 0⟩
theorem t1105 : PC (evO badP allP Ot A 1000000 197) 1000000 k1104 f1103 s1077 .normal f1108 s1128 := fun K => by kernel_rfl
def k1129 : ACode := .region [V 22 7,
V 23 1,
E 24 (.callf 9 [(.t 22), (.t 23)]),
V 21 24,
Q 25 (.extract 0 (.t 21)),
Q 26 (.extract 1 (.t 21)),
V 8 25,
V 9 26]
def y1131 : AVal := (.tup [(.one (xi 0)), (.one (xi 0))])
def m1132 : PM AVal := (nd (vi 0) (nd (vi 0) (lf (vp 17686 0 0)) (lf (vi 0))) (nd (vi 0) (lf y1131) .nil))
def m1133 : PM AVal := (nd (vi 5) (nn (nd (vp 18316 0 0) .nil (lf (vi 5))) (nd (vp 17686 0 0) (lf (vp 17685 0 0)) .nil)) m1132)
def m1134 : PM AVal := (nd (vi 0) (nd (vi 0) (lf (vp 17686 0 0)) (lf y1131)) (nd (vi 0) (lf (vp 18316 0 0)) .nil))
def m1135 : PM AVal := (nd (vi 0) (nn (lf (vp 17686 0 2)) (lf (vi 0))) (nd (vb false) (lf (vp 18316 0 0)) .nil))
def f1136 : Fr := ⟨(nd (vp 17686 0 0) m1133 (nn m1134 m1135)), [], none⟩
def x1137 : AObj := (.row 3 1 0 [(xi 5)])
def m1138 : PM AObj := (nn (nn (nn (nn (lf x34) .nil) (nn .nil (nn .nil (nn (nn (nn (nn (lf x973) .nil) .nil) .nil) (nn (nn (nn (lf x1137) .nil) .nil) .nil))))) .nil) m979)
def x1139 : AObj := (.row 96 4 0 [(xi 1), (xi 5), (xi 5), (.s (.mp 18317))])
def m1140 : PM AObj := (nn (nn .nil (nn .nil (nd x325 .nil (nn .nil (nn (nn (nn (lf x1139) .nil) .nil) .nil))))) (nn (nn (lf x49) (nd x58 .nil (nn (nn (nn (nn (lf x24) .nil) .nil) .nil) .nil))) (nn .nil (lf x274))))
def m1141 : PM AObj := (nn (nd x29 m1140 (nn (nn .nil (nn (nn (nn .nil (nn (nn (nn (lf x987) .nil) .nil) .nil)) .nil) .nil)) m1013)) (nn m1014 (nd x38 (nd x59 .nil (nn (nn .nil (nn (nn (nn (nn (lf x24) .nil) .nil) .nil) .nil)) .nil)) m1015)))
def x1142 : AObj := (.mit (some 18317) 1 [0] 1)
def m1143 : PM AObj := (nn .nil (nn (nn (nn (nn (nn (lf x340) .nil) .nil) .nil) .nil) (nn (nn (nn (nn (lf x954) .nil) .nil) .nil) (nn (nn (nn (lf x1142) .nil) .nil) .nil))))
def m1144 : PM AObj := (nn (nn (nn (nd x24 m332 m1019) m1022) (nn m1075 (nn (nn (nn .nil m1143) (nn (nn .nil (nn (nn (nn (nn (nn (lf x307) .nil) .nil) .nil) .nil) .nil)) .nil)) m1026))) m1126)
def m1145 : PM AObj := (nd x940 (nd x941 m1112 (nn (nn (nd x288 (nn m1063 m971) m975) (nn (nn m1064 m296) m1138)) m1116)) (nd x995 (nn (nn m1070 m1118) (nn (nn (nn m1009 m1010) (nn m1011 m324)) m1141)) m1144))
def s1146 : St := ⟨m1145, 18331, 0⟩
theorem t1130 : PC (evO badP allP Ot A 1000000 197) 1000000 k1129 f1108 s1128 .normal f1136 s1146 := fun K => by kernel_rfl
def k1147 : ACode := .seq (
.region [V 27 9,
Q 28 (.bin .neq .scalar (.t 27) (ci 0))]) (
.cond (.t 28) (
.seq (
.region [V 29 9,
Q 4 (.mov (ci 0)),
V 5 29]) (
.ret)) (
.skip))
def m1149 : PM AVal := (nn (nd (vp 18316 0 0) .nil (lf (vi 5))) (nd (vp 17686 0 0) (lf (vp 17685 0 0)) (lf (vi 0))))
def m1150 : PM AVal := (nd (vi 0) (nd (vi 0) (lf (vp 17686 0 0)) (lf y1131)) (nd (vi 0) (lf (vp 18316 0 0)) (lf (vb false))))
def f1151 : Fr := ⟨(nd (vp 17686 0 0) (nd (vi 5) m1149 m1132) (nn m1150 m1135)), [], none⟩
theorem t1148 : PC (evO badP allP Ot A 1000000 197) 1000000 k1147 f1136 s1146 .normal f1151 s1146 := fun K => by kernel_rfl
def r1152 : List AOper := [V 30 0, V 31 7]
def m1153 : PM AVal := (nn (nd (vp 18316 0 0) (nn (lf (vp 18316 0 0)) .nil) (lf (vi 5))) (nd (vp 17686 0 0) (lf (vp 17685 0 0)) (lf (vi 0))))
def m1154 : PM AVal := (nd (vi 0) (nn (lf (vp 17686 0 2)) (lf (vi 0))) (nd (vb false) (lf (vp 18316 0 0)) (lf (vp 17686 0 0))))
def f1155 : Fr := ⟨(nd (vp 17686 0 0) (nd (vi 5) m1153 m1132) (nn m1150 m1154)), [], none⟩
theorem o1156 : PX (evO badP allP Ot A 1000000 197) r1152 f1151 s1146 f1155 s1146 := fun r K => by kernel_rfl
def r1157 : List AOper := [E 32 (.callf 133 [(.t 30), (.t 31)])]
def k1158 : ACode := .region [M 2 (.box 54 1 (.t 0)),
M 3 (.box 29 1 (.t 1)),
Q 4 (.mov (ci 0))]
def f1160 : Fr := ⟨(nd (vp 17686 0 0) (lf (vp 18316 0 0)) .nil), [], none⟩
def f1161 : Fr := ⟨(nd (vp 17686 0 0) (nd (vp 18316 0 0) (lf (vp 18332 0 0)) .nil) (nd (vp 18331 0 0) (lf (vi 0)) .nil)), [], none⟩
def x1162 : AObj := (.row 54 1 0 [(.s (.ptr 17686 0 0))])
def m1163 : PM AObj := (nn (nn .nil (nn .nil (nd x284 .nil (nn (nn (nn (nn (lf x33) .nil) .nil) .nil) (nn (nn (nn (lf x1162) .nil) .nil) .nil))))) (nn (nn (nd x24 .nil (nn .nil (nn (nn (nn (lf x950) .nil) .nil) .nil))) (nn (nn (nn (nn (nn (lf x285) .nil) .nil) .nil) .nil) .nil)) .nil))
def m1164 : PM AObj := (nn (nd x35 m1060 (nn (nn .nil (nn (nn (nn .nil (nn (nn (nn (lf x24) .nil) .nil) .nil)) .nil) .nil)) m964)) (nn m1163 (nn (nn (nn (nn .nil (nn (nn (nn (nn (lf x272) .nil) .nil) .nil) .nil)) .nil) .nil) m967)))
def m1165 : PM AObj := (nn (nn (nn (nn (nn m1059 (nn (nn .nil (nn (nn (nn (nn (nn (lf x24) .nil) .nil) .nil) .nil) .nil)) .nil)) .nil) m947) (nn (nn m949 m951) m1111)) (nn (nn (nn m277 m958) (nn (nn m960 (nn (nn (lf x34) .nil) .nil)) m961)) m1164))
def x1166 : AObj := (.row 29 1 0 [(.s (.ptr 18316 0 0))])
def m1167 : PM AObj := (nn (nn .nil (nn .nil (nn .nil (nn (nn (nn (lf x343) .nil) .nil) .nil)))) (nn (nn .nil (nn (nn (nn (nn (lf x24) .nil) .nil) .nil) .nil)) (nn .nil (nn .nil (nn (nn (nn (lf x1166) .nil) .nil) .nil)))))
def m1168 : PM AObj := (nn (nn m1167 (nn .nil (nn (nn .nil (nn (nn (nn (nn (lf x24) .nil) .nil) .nil) .nil)) .nil))) (nd x38 (nd x59 .nil (nn (nn .nil (nn (nn (nn (nn (lf x24) .nil) .nil) .nil) .nil)) .nil)) m1015))
def m1169 : PM AObj := (nn (nn m1070 m1118) (nn (nn (nn m1009 m1010) (nn m1011 m324)) (nn (nd x29 m1140 (nn (nn .nil (nn (nn (nn .nil (nn (nn (nn (lf x987) .nil) .nil) .nil)) .nil) .nil)) m1013)) m1168)))
def s1170 : St := ⟨(nd x940 (nd x941 m1165 (nn (nn (nd x288 (nn m1063 m971) m975) (nn (nn m1064 m296) m1138)) m1116)) (nd x995 m1169 m1144)), 18333, 0⟩
theorem t1159 : PC (evO badP allP Ot A 1000000 196) 1000000 k1158 f1160 s1146 .normal f1161 s1170 := fun K => by kernel_rfl
def r1171 : List AOper := [Q 5 (.load false 1 (.t 2)), Q 6 (.load false 1 (.t 3)), Q 7 (.mkfn (.func 189) 189 [] [(.t 2), (.t 3)])]
def e1172 : Cell := (.fn (.func 189) 189 [] [⟨false, [(.ptr 18331 0 0)]⟩, ⟨false, [(.ptr 18332 0 0)]⟩])
def m1173 : PM AVal := (nd (vp 17686 0 0) (nd (vp 18316 0 0) (nd (vp 18332 0 0) (lf (vc e1172)) .nil) (lf (vp 17686 0 0))) (nd (vp 18331 0 0) (lf (vi 0)) (lf (vp 18316 0 0))))
def f1174 : Fr := ⟨m1173, [], none⟩
theorem o1175 : PX (evO badP allP Ot A 1000000 196) r1171 f1161 s1170 f1174 s1170 := fun r K => by kernel_rfl
def r1176 : List AOper := [E 8 (.callf 188 [(.t 5), (.t 6), (.t 7)])]
def f1178 : Fr := ⟨(nd (vp 17686 0 0) (lf (vp 18316 0 0)) (lf (vc e1172))), [], none⟩
def f1179 : Fr := ⟨(nd (vp 17686 0 0) (lf (vp 18316 0 0)) (nd (vc e1172) .nil (lf (vi 0)))), [], none⟩
theorem t1177 : PC (evO badP allP Ot A 1000000 195) 1000000 k456 f1178 s1170 .normal f1179 s1170 := fun K => by kernel_rfl
def f1180 : Fr := ⟨(nd (vp 17686 0 0) (nd (vp 18316 0 0) (nn .nil (lf (vc e1172))) .nil) (nd (vc e1172) .nil (lf (vi 0)))), [], none⟩
theorem o1181 : PX (evO badP allP Ot A 1000000 195) r460 f1179 s1170 f1180 s1170 := fun r K => by kernel_rfl
end Go.Proofs.YtcdebohjjkffkaaGreat.tr
