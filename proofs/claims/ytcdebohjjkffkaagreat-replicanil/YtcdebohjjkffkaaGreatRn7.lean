/- A closed run, printed by program: piece by piece. -/
import Derived.Test.YtcdebohjjkffkaaGreatRn6
namespace Go.Proofs.YtcdebohjjkffkaaGreat.tr
open Go Go.Rf
set_option maxRecDepth 1000000
def m1661 : PM AVal := (nd (vp 17686 0 0) (nd (vp 32099 0 0) (nn .nil (lf (vc e1652))) .nil) (nd (vc e1652) (nn .nil (lf (.tup [u1182, (.one (xi 0))]))) (lf (vi 0))))
def f1662 : Fr := ⟨m1661, [], none⟩
def m1663 : PM AObj := (nn (nn (nn (nn .nil (nn .nil (nn .nil (nn .nil (nn .nil (lf x276)))))) .nil) .nil) (nn (nn .nil (nn (nn .nil (nn .nil (nn .nil (nn .nil (lf x1388))))) .nil)) .nil))
def m1664 : PM AObj := (nn (nn (nn m1059 (nn (nn .nil (nn (nn (nn (nn (nn (lf x24) .nil) .nil) .nil) .nil) .nil)) .nil)) m1663) (nn m1263 (nn m1391 (nd x26 (nn .nil m1616) (nn (lf x27) .nil)))))
def m1665 : PM AObj := (nn (nn (nn .nil (nd x30 .nil (nn .nil (nn (nn .nil (nn (nn (lf x318) .nil) .nil)) .nil)))) (nn .nil (nn .nil (nn .nil (nn (nn (lf x266) .nil) .nil))))) (nd x26 (nn (nn .nil (nn .nil (nn (nn (nn (lf x950) .nil) .nil) .nil))) .nil) .nil))
def m1666 : PM AObj := (nn (nn m1185 (nn (nd x24 .nil (nn (nn (nn (nn (lf x273) .nil) .nil) .nil) (nn (nn .nil (nn (nn (lf x1214) .nil) .nil)) .nil))) .nil)) (nn (nn (nn (nn (nn .nil (nn (lf x274) .nil)) .nil) .nil) .nil) .nil))
def m1667 : PM AObj := (nn (nn m1110 (nn (nn (nn (nn (nn .nil (nn (lf x269) .nil)) .nil) .nil) .nil) (nn (nn .nil (nn (nn (nn (nn (lf x270) .nil) .nil) .nil) .nil)) .nil))) m1666)
def x1668 : AObj := (.row 5 1 0 [(.s (.d (.int .u8 (.ofNat 18)))), (.s (.d (.int .u8 (.ofNat 0)))), (.s (.d (.int .u8 (.ofNat 0)))), (.s (.d (.int .u8 (.ofNat 0)))), (.s (.d (.int .u8 (.ofNat 0)))), (.s (.d (.int .u8 (.ofNat 0)))), (.s (.d (.int .u8 (.ofNat 0)))), (.s (.d (.int .u8 (.ofNat 0)))), (.s (.d (.int .u8 (.ofNat 0)))), (.s (.d (.int .u8 (.ofNat 0)))), (.s (.d (.int .u8 (.ofNat 0)))), (.s (.d (.int .u8 (.ofNat 0)))), (.s (.d (.int .u8 (.ofNat 0)))), (.s (.d (.int .u8 (.ofNat 0)))), (.s (.d (.int .u8 (.ofNat 0)))), (.s (.d (.int .u8 (.ofNat 0)))), (.s (.d (.int .u8 (.ofNat 0)))), (.s (.d (.int .u8 (.ofNat 0)))), (.s (.d (.int .u8 (.ofNat 0)))), (.s (.d (.int .u8 (.ofNat 0)))), (.s (.d (.int .u8 (.ofNat 0)))), (.s (.d (.int .u8 (.ofNat 0)))), (.s (.d (.int .u8 (.ofNat 0)))), (.s (.d (.int .u8 (.ofNat 0)))), (.s (.d (.int .u8 (.ofNat 0)))), (.s (.d (.int .u8 (.ofNat 0)))), (.s (.d (.int .u8 (.ofNat 0)))), (.s (.d (.int .u8 (.ofNat 0)))), (.s (.d (.int .u8 (.ofNat 0)))), (.s (.d (.int .u8 (.ofNat 0)))), (.s (.d (.int .u8 (.ofNat 0)))), (.s (.d (.int .u8 (.ofNat 0)))), (.s (.d (.int .u8 (.ofNat 0)))), (.s (.d (.int .u8 (.ofNat 0)))), (.s (.d (.int .u8 (.ofNat 0)))), (.s (.d (.int .u8 (.ofNat 0)))), (.s (.d (.int .u8 (.ofNat 0)))), (.s (.d (.int .u8 (.ofNat 0)))), (.s (.d (.int .u8 (.ofNat 0)))), (.s (.d (.int .u8 (.ofNat 0)))), (.s (.d (.int .u8 (.ofNat 0)))), (.s (.d (.int .u8 (.ofNat 0)))), (.s (.d (.int .u8 (.ofNat 0)))), (.s (.d (.int .u8 (.ofNat 0)))), (.s (.d (.int .u8 (.ofNat 0)))), (.s (.d (.int .u8 (.ofNat 0)))), (.s (.d (.int .u8 (.ofNat 0)))), (.s (.d (.int .u8 (.ofNat 0)))), (.s (.d (.int .u8 (.ofNat 0)))), (.s (.d (.int .u8 (.ofNat 0)))), (.s (.d (.int .u8 (.ofNat 0)))), (.s (.d (.int .u8 (.ofNat 0)))), (.s (.d (.int .u8 (.ofNat 0)))), (.s (.d (.int .u8 (.ofNat 0)))), (.s (.d (.int .u8 (.ofNat 0)))), (.s (.d (.int .u8 (.ofNat 0)))), (.s (.d (.int .u8 (.ofNat 0)))), (.s (.d (.int .u8 (.ofNat 0)))), (.s (.d (.int .u8 (.ofNat 0)))), (.s (.d (.int .u8 (.ofNat 0)))), (.s (.d (.int .u8 (.ofNat 0)))), (.s (.d (.int .u8 (.ofNat 0)))), (.s (.d (.int .u8 (.ofNat 0)))), (.s (.d (.int .u8 (.ofNat 0)))), (.s (.d (.int .u8 (.ofNat 0)))), (.s (.d (.int .u8 (.ofNat 0)))), (.s (.d (.int .u8 (.ofNat 0)))), (.s (.d (.int .u8 (.ofNat 0)))), (.s (.d (.int .u8 (.ofNat 0)))), (.s (.d (.int .u8 (.ofNat 0)))), (.s (.d (.int .u8 (.ofNat 0)))), (.s (.d (.int .u8 (.ofNat 0)))), (.s (.d (.int .u8 (.ofNat 0)))), (.s (.d (.int .u8 (.ofNat 0)))), (.s (.d (.int .u8 (.ofNat 0)))), (.s (.d (.int .u8 (.ofNat 0)))), (.s (.d (.int .u8 (.ofNat 0)))), (.s (.d (.int .u8 (.ofNat 0)))), (.s (.d (.int .u8 (.ofNat 0)))), (.s (.d (.int .u8 (.ofNat 0)))), (.s (.d (.int .u8 (.ofNat 0)))), (.s (.d (.int .u8 (.ofNat 0)))), (.s (.d (.int .u8 (.ofNat 0)))), (.s (.d (.int .u8 (.ofNat 0)))), (.s (.d (.int .u8 (.ofNat 0)))), (.s (.d (.int .u8 (.ofNat 0)))), (.s (.d (.int .u8 (.ofNat 0)))), (.s (.d (.int .u8 (.ofNat 0)))), (.s (.d (.int .u8 (.ofNat 0)))), (.s (.d (.int .u8 (.ofNat 0)))), (.s (.d (.int .u8 (.ofNat 0)))), (.s (.d (.int .u8 (.ofNat 0)))), (.s (.d (.int .u8 (.ofNat 0)))), (.s (.d (.int .u8 (.ofNat 0)))), (.s (.d (.int .u8 (.ofNat 0)))), (.s (.d (.int .u8 (.ofNat 0)))), (.s (.d (.int .u8 (.ofNat 0)))), (.s (.d (.int .u8 (.ofNat 0)))), (.s (.d (.int .u8 (.ofNat 0)))), (.s (.d (.int .u8 (.ofNat 0)))), (.s (.d (.int .u8 (.ofNat 0)))), (.s (.d (.int .u8 (.ofNat 0)))), (.s (.d (.int .u8 (.ofNat 0)))), (.s (.d (.int .u8 (.ofNat 0)))), (.s (.d (.int .u8 (.ofNat 0)))), (.s (.d (.int .u8 (.ofNat 0)))), (.s (.d (.int .u8 (.ofNat 0)))), (.s (.d (.int .u8 (.ofNat 0)))), (.s (.d (.int .u8 (.ofNat 0)))), (.s (.d (.int .u8 (.ofNat 0)))), (.s (.d (.int .u8 (.ofNat 0)))), (.s (.d (.int .u8 (.ofNat 0)))), (.s (.d (.int .u8 (.ofNat 0)))), (.s (.d (.int .u8 (.ofNat 0)))), (.s (.d (.int .u8 (.ofNat 0)))), (.s (.d (.int .u8 (.ofNat 0)))), (.s (.d (.int .u8 (.ofNat 0)))), (.s (.d (.int .u8 (.ofNat 0)))), (.s (.d (.int .u8 (.ofNat 0)))), (.s (.d (.int .u8 (.ofNat 0)))), (.s (.d (.int .u8 (.ofNat 0)))), (.s (.d (.int .u8 (.ofNat 0)))), (.s (.d (.int .u8 (.ofNat 0)))), (.s (.d (.int .u8 (.ofNat 0)))), (.s (.d (.int .u8 (.ofNat 0)))), (.s (.d (.int .u8 (.ofNat 0)))), (.s (.d (.int .u8 (.ofNat 0)))), (.s (.d (.int .u8 (.ofNat 0))))])
def m1669 : PM AObj := (nn (nn (nn (nn .nil (nn (lf x274) .nil)) .nil) (nn .nil (nn .nil (nn .nil (nn .nil (lf x1668)))))) (nn .nil (nn (nn .nil (nn .nil (nn .nil (lf x1266)))) .nil)))
def m1670 : PM AObj := (nn (nn .nil (nn (nn (nn .nil (nn (nn (nn (lf x24) .nil) .nil) .nil)) .nil) (nd x278 .nil (nn (nn (nn (nn (lf x64) .nil) .nil) .nil) .nil)))) (nn m1669 m1404))
def m1671 : PM AObj := (nn (nn (nn m1393 (nn (nn (nn (nn (nn .nil (nn (lf x276) .nil)) .nil) .nil) (nn (nn .nil (nn .nil (nn .nil (nn .nil (lf x1394))))) .nil)) .nil)) m1619) (nn (nn (nn m1398 (nn (nn (nn .nil (nn (nn (nn (lf x27) .nil) .nil) .nil)) .nil) .nil)) m1400) m1670))
def m1672 : PM AObj := (nn (nn m1664 (nn (nn m949 m1665) m1667)) (nn m1671 (nn (nd x35 m1060 (nn m1407 (nn m1408 (nn .nil (nn .nil (nn (nn (nn (nn (lf x963) .nil) .nil) .nil) .nil)))))) (nn m1163 m1272))))
def m1673 : PM AObj := (nn (nn (nn (nn (nn (lf x289) .nil) .nil) .nil) (nn .nil (nn .nil (nn .nil (lf x24))))) (nn .nil (nn (nn .nil (nn (nn (lf x1209) .nil) .nil)) .nil)))
def m1674 : PM AObj := (nn (nn .nil (nn .nil (nd x220 (nn (nn (nn (nn .nil (lf x1198)) .nil) .nil) .nil) (nn .nil (nn (nn (nn (lf x957) .nil) .nil) .nil))))) (nn (nn .nil m1673) .nil))
def m1675 : PM AObj := (nd x288 (nn m1674 (nd x38 (nd x39 (nn .nil (nn .nil (nn .nil (nn (nn (nn (lf x969) .nil) .nil) .nil)))) .nil) m1411)) (nn (nn (nn .nil (nn (nd x40 (nn .nil (nn .nil (nn .nil (nn .nil (lf x24))))) .nil) .nil)) m1412) m1645))
def m1676 : PM AObj := (nn (nn .nil (nd x48 .nil (nn .nil (nn (nn (nn (lf x983) .nil) (nn (nn (lf x24) .nil) .nil)) .nil)))) (nn .nil (nn .nil (nn .nil (nn (nn (lf x301) .nil) .nil)))))
def m1677 : PM AObj := (nn (nn (nn (nn .nil (nn .nil (nn .nil (nn .nil (lf x24))))) .nil) .nil) (nn (nn .nil (nn .nil (nn (nn .nil (nn (nn (lf x1207) .nil) .nil)) .nil))) .nil))
def m1678 : PM AObj := (nn (nn m1113 (nn (nn (lf x49) (nn .nil (nn .nil (nn (nn .nil (nn (nn (lf x24) .nil) .nil)) .nil)))) .nil)) (nn m1677 (nn (nn (nn (nn (nn .nil (nn (lf x276) .nil)) .nil) .nil) .nil) .nil)))
def x1679 : AObj := (.map (.int .i64) [⟨[(.int .i64 (.ofNat 0))], 4, (.one (.s (.d h1277)))⟩, ⟨[(.int .i64 (.ofNat 2))], 5, (.one (.s (.d h1200)))⟩] 6)
def m1680 : PM AObj := (nd x29 (nn (nn .nil (nn .nil (nn (nn .nil (nn .nil (nn .nil (lf x305)))) .nil))) (nd x24 (nn (nn .nil (nn (nn (nn (lf x1679) .nil) .nil) .nil)) .nil) .nil)) (nn (nn (nn .nil (nn (nn .nil (nn .nil (nn .nil (lf x1281)))) .nil)) (lf x220)) m991))
def m1681 : PM AObj := (nn (nn (nn m982 (nn m1676 (nn (nn .nil (nn (nn (nn (nn (nn .nil (lf x1196)) .nil) .nil) (nn .nil (nn .nil (nn .nil (lf x1142))))) .nil)) .nil))) m1678) (nn (nd x33 m1115 m1624) (nn m1199 m1680)))
def m1682 : PM AObj := (nn (nn .nil (nn (nn (nn (nn (lf x24) .nil) .nil) .nil) .nil)) (nn (nn (nn (nn (nn (lf x305) .nil) .nil) .nil) .nil) (nn .nil (nn (nn .nil (nn (nn (lf x307) .nil) .nil)) .nil))))
def m1683 : PM AObj := (nn (nn (nn (nn .nil (nn (nn (nn (nn .nil (nn (lf x274) .nil)) .nil) .nil) m1431)) (nn m1682 .nil)) m1433) (nn (nn .nil (nn (nn .nil (nd x87 (nn (nn (nn (nn .nil (lf x24)) .nil) .nil) .nil) .nil)) .nil)) m1649))
def m1684 : PM AObj := (nn (nn m1436 (nn (nn (nn (nn .nil (nn (nn (nn (lf x1001) .nil) .nil) .nil)) .nil) .nil) (nn (lf x43) .nil))) (nn (nn (nn .nil (nd x55 .nil (nn .nil (nn (nn .nil (nn (nn (lf x33) .nil) .nil)) .nil)))) (lf x24)) m1437))
def m1685 : PM AObj := (nn (nn .nil (nn .nil (nn .nil (nn (nn .nil (nn (nn (lf x1266) .nil) .nil)) .nil)))) (nn (nn (nn .nil (nn .nil (nn .nil (nn .nil (lf x1395))))) .nil) (nd x325 .nil (nn .nil (nn (nn (nn (lf x1139) .nil) .nil) .nil)))))
def m1686 : PM AObj := (nn (nd x29 (nn m1685 m1444) (nn m1445 (nd x24 (nn .nil m1628) (nn .nil (nn .nil (nn (nn (nn (nn (lf x1008) .nil) .nil) .nil) .nil)))))) (nn (nn m1167 (nn .nil (nn (nn .nil (nn (nn (nn (nn (lf x24) .nil) .nil) .nil) .nil)) .nil))) (nd x38 m1447 m1015)))
def m1687 : PM AObj := (nn (nn (nn (nn (nn .nil (nn (lf x24) .nil)) .nil) .nil) (nn (nn .nil (nn .nil (nn .nil (nn .nil (lf x1198))))) .nil)) (nn (nn (nn .nil (nn .nil (nn .nil (nn .nil (lf x1401))))) .nil) (nn .nil (nn (nn .nil (nn .nil (nn .nil (lf x1403)))) .nil))))
def m1688 : PM AObj := (nn (nn (nn .nil (nn (nn (nn (nn (lf x272) .nil) .nil) .nil) .nil)) (nn .nil (nn .nil (nn (nn .nil (nn (nn (lf x1196) .nil) .nil)) .nil)))) (nn .nil (nn (nn (nn .nil (nn .nil (nn .nil (lf x1296)))) .nil) .nil)))
def m1689 : PM AObj := (nn (nn (nn .nil m1143) (nn (nn .nil (nn (nn (nn (nn (nn (lf x307) .nil) .nil) .nil) .nil) .nil)) .nil)) (nn m1688 (nn .nil (nn .nil (nn (nn .nil (nn (nn (nn (lf x950) .nil) .nil) .nil)) .nil)))))
def m1690 : PM AObj := (nn (nn m1452 (nn (nn (nn (nn .nil (nn (nn .nil (nn (nn (nn (lf x1020) .nil) .nil) .nil)) .nil)) .nil) m1453) (nn m1021 m1687))) (nn (nd x54 m1248 (nn .nil (nn m1295 .nil))) m1689))
def m1691 : PM AObj := (nn (nn (nn .nil (nn .nil (nn .nil (nn .nil (lf x1390))))) .nil) (nd x64 (nn (nn (nn (nn (lf x344) .nil) .nil) .nil) .nil) (nn .nil (nn (nn .nil (nn (nn (lf x276) .nil) .nil)) .nil))))
def m1692 : PM AObj := (nn (nd x35 (nd x59 (nn (nn (nn .nil (nn (nn (nn (lf x64) .nil) .nil) .nil)) .nil) .nil) (nn .nil (lf x343))) .nil) (nn (nn m1691 (nn (nn (nn .nil (nn (nn (nn (lf x987) .nil) .nil) .nil)) .nil) (nn .nil (nn .nil (nn (nn (lf x345) .nil) .nil))))) .nil))
def x1693 : AObj := (.row 192 1 0 [(.s (.sl 38581 0 0 24 true))])
def m1694 : PM AObj := (nn (nn (nn .nil (nn (nn (nn (nn (lf x24) .nil) .nil) .nil) (nn (nn (nn (lf x990) .nil) .nil) .nil))) .nil) (nn (nn .nil (nn .nil (nn (nn .nil (nn (nn (lf x1693) .nil) .nil)) .nil))) (nn (nn (nn (nn (nn (lf x298) .nil) .nil) .nil) .nil) .nil)))
def m1695 : PM AObj := (nn (nn m1458 (nn (nn (lf x49) .nil) .nil)) (nn m1694 (nn (nn (nn (nn (nn .nil (nn (lf x276) .nil)) .nil) (nn (nn (nn (nn (lf x308) .nil) .nil) .nil) .nil)) .nil) .nil)))
def m1696 : PM AObj := (nn (nn .nil (nn (nn (nn (nn (lf x350) .nil) .nil) .nil) (nn .nil (nn .nil (nn .nil (lf x276)))))) (nn .nil (nn .nil (nn (nn (nn (lf x1037) .nil) .nil) .nil))))
def m1697 : PM AObj := (nn (nn (nn m1696 (nn (nn (nn (nn .nil (nn (nn (lf x1219) .nil) .nil)) .nil) .nil) .nil)) m1461) (nn (nn .nil (nn (nd x24 (nn .nil (nn (nn (nn (lf x1039) .nil) .nil) .nil)) .nil) .nil)) (nd x353 (nn .nil (lf x354)) m1040)))
def m1698 : PM AObj := (nd x995 (nn (nn m1683 (nn m1684 (nd x56 m1439 m1440))) (nn (nn (nn m1442 m1627) (nn m1011 m324)) m1686)) (nn m1690 (nn (nn m1692 m1695) (nn (nn (nn m1124 m1033) m1634) m1697))))
def s1699 : St := ⟨(nd x1386 (nd x1582 m1672 (nn (nn m1675 (nn (nn (nn m1274 (nn m1417 (nd x42 (lf x43) .nil))) m1418) (nn m1424 m979))) m1681)) m1698), 38742, 0⟩
theorem o1700 : PX (evO badP allP Ot A 1000000 195) r463 f1659 s1651 f1662 s1699 := fun r K => by kernel_rfl
def m1701 : PM AVal := (nd (vc e1652) (nn (lf (vi 0)) (lf (.tup [u1182, (.one (xi 0))]))) (nd (vi 0) (lf (.tup [u1182, (.one (xi 0))])) (lf (vi 0))))
def f1702 : Fr := ⟨(nd (vp 17686 0 0) (nd (vp 32099 0 0) (nn (lf (vp 38742 0 0)) (lf (vc e1652))) (nn .nil (lf (.v u1182)))) m1701), [], none⟩
def m1703 : PM AObj := (nn (nn m1458 (nn (nn (lf x49) (nn .nil (nn .nil (nn (nn .nil (nn (nn (lf x1198) .nil) .nil)) .nil)))) .nil)) (nn m1694 (nn (nn (nn (nn (nn .nil (nn (lf x276) .nil)) .nil) (nn (nn (nn (nn (lf x308) .nil) .nil) .nil) .nil)) .nil) .nil)))
def m1704 : PM AObj := (nd x995 (nn (nn m1683 (nn m1684 (nd x56 m1439 m1440))) (nn (nn (nn m1442 m1627) (nn m1011 m324)) m1686)) (nn m1690 (nn (nn m1692 m1703) (nn (nn (nn m1124 m1033) m1634) m1697))))
def s1705 : St := ⟨(nd x1386 (nd x1582 m1672 (nn (nn m1675 (nn (nn (nn m1274 (nn m1417 (nd x42 (lf x43) .nil))) m1418) (nn m1424 m979))) m1681)) m1704), 38743, 0⟩
theorem o1706 : PX (evO badP allP Ot A 1000000 195) r487 f1662 s1699 f1702 s1705 := fun r K => by kernel_rfl
theorem o1707 : PO (evO badP allP Ot A 1000000 195) r494 f1662 s1699 .normal f1702 s1705 := PO.app o1706 PO.nil
theorem o1708 : PO (evO badP allP Ot A 1000000 195) r496 f1659 s1651 .normal f1702 s1705 := PO.app o1700 o1707
theorem o1709 : PO (evO badP allP Ot A 1000000 195) r498 f1658 s1651 .normal f1702 s1705 := PO.app o1660 o1708
theorem t1710 : PC (evO badP allP Ot A 1000000 195) 1000000 k500 f1658 s1651 .normal f1702 s1705 := PC.region o1709
def m1712 : PM AVal := (nd (vc e1652) (nn (nd (vi 0) (lf (vb true)) .nil) (lf (.tup [u1182, (.one (xi 0))]))) (nd (vi 0) (lf (.tup [u1182, (.one (xi 0))])) (lf (vi 0))))
def m1713 : PM AVal := (nd (vp 17686 0 0) (nd (vp 32099 0 0) (nn (nd (vp 38742 0 0) (lf (vi 0)) .nil) (lf (vc e1652))) (nn .nil (lf (.v u1182)))) m1712)
def f1714 : Fr := ⟨m1713, [], none⟩
theorem t1711 : PC (evO badP allP Ot A 1000000 195) 1000000 k502 f1702 s1705 .normal f1714 s1705 := fun K => by kernel_rfl
def s1715 : St := ⟨(nd x1386 (nd x1582 m1672 (nn (nn m1675 (nn (nn (nn m1274 (nn m1417 (nd x42 (lf x43) .nil))) m1418) (nn m1424 m979))) m1681)) m1704), 38751, 0⟩
def w1716 : Dr := ⟨f1714, s1715, [], []⟩
def m1717 : PM AVal := (nd (vp 32099 0 0) (nn (nd (vp 38742 0 0) (lf (vi 0)) .nil) (nd (vc e1652) (lf (vp 17686 0 1)) .nil)) (nn (nn (lf (vp 17686 0 0)) .nil) (nd (.v u1182) (lf (.v u1182)) .nil)))
def m1718 : PM AVal := (nd (vc e1652) (nn (nd (vi 0) (lf (vb true)) .nil) (nd (.tup [u1182, (.one (xi 0))]) (lf (vp 17682 0 0)) .nil)) m1244)
def f1719 : Fr := ⟨(nd (vp 17686 0 0) m1717 m1718), [], none⟩
def m1720 : PM AObj := (nn (nn (nn (nn .nil (nn .nil (nn .nil (nn .nil (nn .nil (lf x276)))))) .nil) .nil) (nn (nn .nil (nn (nn .nil (nn .nil (nn .nil (nn .nil (lf x1388))))) (nn .nil (nn (nn .nil (nn (nn (lf x1198) .nil) .nil)) .nil)))) .nil))
def m1721 : PM AObj := (nn (nn (nn m1059 (nn (nn .nil (nn (nn (nn (nn (nn (lf x24) .nil) .nil) .nil) .nil) .nil)) .nil)) m1720) (nn m1263 (nn m1391 (nd x26 (nn .nil m1616) (nn (lf x27) .nil)))))
def m1722 : PM AObj := (nn (nn m1721 (nn (nn m949 m1665) m1667)) (nn m1671 (nn (nd x35 m1060 (nn m1407 (nn m1408 (nn .nil (nn .nil (nn (nn (nn (nn (lf x963) .nil) .nil) .nil) .nil)))))) (nn m1163 m1272))))
def s1723 : St := ⟨(nd x1386 (nd x1582 m1722 (nn (nn m1675 (nn (nn (nn m1274 (nn m1417 (nd x42 (lf x43) .nil))) m1418) (nn m1424 m979))) m1681)) m1704), 38763, 0⟩
def m1724 : PM AVal := (nd (vp 32099 0 0) (nn (nd (vp 38742 0 0) (lf (vi 0)) .nil) (nd (vc e1652) (lf (vp 17686 0 1)) .nil)) (nn (nn (lf (vp 17686 0 0)) .nil) (lf (.v u1182))))
def m1725 : PM AVal := (nd (vc e1652) (nn (nd (vi 0) (lf (vb true)) .nil) (nd (.tup [u1182, (.one (xi 0))]) (lf (vp 17682 0 0)) .nil)) (nd (vi 0) (nd (.tup [u1182, (.one (xi 0))]) (lf (vp 17686 0 0)) .nil) (lf (vi 0))))
def p1726 : PM AVal := (nd (vp 17686 0 0) m1724 m1725)
def m1727 : PM AVal := (nd (vc e1652) (nn (nd (vi 0) (lf (vb true)) .nil) (lf (.tup [u1182, (.one (xi 0))]))) (nd (vi 0) (nd (.tup [u1182, (.one (xi 0))]) (lf (vp 17686 0 0)) .nil) (lf (vi 0))))
def p1728 : PM AVal := (nd (vp 17686 0 0) m1724 m1727)
def w1729 : Dr := ⟨f1719, s1723, [], [⟨4, 0, p1726, .load true 2 (.t 7), (.v u1182)⟩, ⟨3, 7, p1728, .load false 1 (.t 19), (vp 17682 0 0)⟩]⟩
theorem d1730 : PD (evO badP allP Ot A 1000000 195) 38743 q507 q524 w1716 w1729 := fun r K => by kernel_rfl
def m1731 : PM AVal := (nd (vp 32099 0 0) (nn (nd (vp 38742 0 0) (lf (vi 0)) (lf (vi 0))) (nd (vc e1652) (lf (vp 17686 0 1)) .nil)) (nn (nn (lf (vp 17686 0 0)) .nil) (nd (.v u1182) (lf (.v u1182)) .nil)))
def f1732 : Fr := ⟨(nd (vp 17686 0 0) m1731 m1718), [], none⟩
def m1733 : PM AObj := (nn (nn (nn (nn (nn (nn (nn .nil (nn .nil (nn (lf x305) .nil))) .nil) .nil) (nn .nil (nn .nil (nn .nil (nn .nil (lf x276)))))) .nil) .nil) (nn (nn .nil (nn (nn .nil (nn .nil (nn .nil (nn .nil (lf x1388))))) (nn .nil (nn (nn .nil (nn (nn (lf x1198) .nil) .nil)) .nil)))) .nil))
def m1734 : PM AObj := (nn (nn .nil (lf x24)) (nd x25 .nil (nd x260 .nil (nn (nn .nil (nn .nil (nn .nil (lf x1261)))) (nn .nil (nn (nn .nil (nn (lf x1296) .nil)) .nil))))))
def m1735 : PM AObj := (nn (nn m1734 (nn (nn (nn .nil (nn (nn .nil (nn .nil (nn .nil (lf x1262)))) .nil)) (nd x83 .nil (nn (nn (nn (nn (lf x261) .nil) .nil) .nil) .nil))) .nil)) (nn m1391 (nd x26 (nn .nil m1616) (nn (lf x27) .nil))))
def m1736 : PM AObj := (nn (nn (nn (nn m1059 (nn (nn .nil (nn (nn (nn (nn (nn (lf x24) .nil) (nn .nil (nn (lf x45) .nil))) .nil) .nil) .nil)) .nil)) m1733) m1735) (nn (nn m949 m1665) m1667))
def m1737 : PM AObj := (nn (nn (nn (nn (nn (nn .nil (nn .nil (nn (lf x1281) .nil))) .nil) .nil) .nil) .nil) (nn (nn (nn .nil (nn (nn (nn (lf x24) .nil) .nil) .nil)) .nil) (nd x278 .nil (nn (nn (nn (nn (lf x64) .nil) .nil) .nil) .nil))))
def m1738 : PM AObj := (nn (nn (nn (nn .nil (nn .nil (nn (lf x1275) .nil))) .nil) (nn .nil (nn .nil (nn .nil (lf x1401))))) (nn (nn (nn (nn (lf x24) .nil) .nil) .nil) .nil))
def m1739 : PM AObj := (nn (nn (nn m1398 (nn (nn (nn .nil (nn (nn (nn (lf x27) .nil) .nil) .nil)) .nil) .nil)) m1400) (nn m1737 (nn m1669 (nn m1738 (nn .nil (nn (nn .nil (nn .nil (nn .nil (lf x1403)))) .nil))))))
def m1740 : PM AObj := (nn (nn (nn m1393 (nn (nn (nn (nn (nn .nil (nn (lf x276) .nil)) .nil) .nil) (nn (nn .nil (nn .nil (nn .nil (nn .nil (lf x1394))))) .nil)) .nil)) m1619) m1739)
def m1741 : PM AObj := (nd x38 (nd x39 (nn (nn (nn (nn (nn .nil (nn .nil (nn (lf x33) .nil))) .nil) .nil) .nil) (nn .nil (nn .nil (nn (nn (nn (lf x969) .nil) .nil) .nil)))) .nil) m1411)
def m1742 : PM AObj := (nn (nn .nil (nn (nd x40 (nn .nil (nn .nil (nn .nil (nn .nil (lf x24))))) .nil) (nn .nil (nn .nil (nn .nil (nn (nn .nil (nn (lf x1290) .nil)) .nil)))))) m1412)
def m1743 : PM AObj := (nn (nn (nn (nn .nil (nn (lf x294) .nil)) .nil) .nil) (nd x295 (nn (nn (nn .nil (nn .nil (nn (lf x344) .nil))) .nil) (nn .nil (nn .nil (nn .nil (lf x27))))) .nil))
def m1744 : PM AObj := (nn (nn m1743 (lf x45)) (nn (nn (nn .nil (nn (nn .nil (nn .nil (nn .nil (lf x1275)))) .nil)) (nn .nil (nn (nn (nn (nn (lf x33) .nil) .nil) .nil) .nil))) .nil))
def m1745 : PM AObj := (nn (nn .nil (nn (nn (nn (nn .nil (nn .nil (nn (lf x24) .nil))) .nil) .nil) .nil)) (nn .nil (nn .nil (nn (nn .nil (nn .nil (nn .nil (lf x1423)))) .nil))))
def m1746 : PM AObj := (nn (nn (nd x46 (nn (nn (nn .nil (nn .nil (nn (lf x307) .nil))) .nil) .nil) (nn (nn (nn (nn (lf x298) .nil) .nil) .nil) .nil)) .nil) (nn (lf x40) .nil))
def m1747 : PM AObj := (nn (nn (nn (nn (lf x34) .nil) (nn .nil (nn .nil (nn (nn (nn (nn (lf x973) .nil) .nil) .nil) (nn (nn (nn (lf x1137) .nil) .nil) .nil))))) m1745) (nn m1746 (nn .nil (nn .nil (nn (nn .nil (nn (nn (nn (lf x305) .nil) .nil) .nil)) .nil)))))
def m1748 : PM AObj := (nn (nn (nn (nn .nil (nn (lf x33) .nil)) .nil) .nil) (nn (nn (nn (nn .nil (nn .nil (nn (lf x340) .nil))) .nil) .nil) (nn .nil (nn (nn (nn (lf x30) .nil) .nil) .nil))))
def m1749 : PM AObj := (nn (nn (nn (nn (nn (nn (nn (nn .nil (nn .nil (nn (lf x1262) .nil))) .nil) (nn (nn (nn (lf x981) .nil) .nil) .nil)) .nil) .nil) .nil) (nn m1748 .nil)) (nn m1676 (nn (nn .nil (nn (nn (nn (nn (nn .nil (lf x1196)) .nil) .nil) (nn .nil (nn .nil (nn .nil (lf x1142))))) .nil)) .nil)))
def x1750 : AObj := (.map (.int .i64) [⟨[(.int .i64 (.ofNat 0))], 4, (.one (.s (.d h254)))⟩, ⟨[(.int .i64 (.ofNat 2))], 5, (.one (.s (.d h1200)))⟩, ⟨[(.int .i64 (.ofNat 3))], 6, (.one (.s (.d h1278)))⟩, ⟨[(.int .i64 (.ofNat 1))], 7, (.one (.s (.d h255)))⟩] 8)
def m1751 : PM AObj := (nd x29 (nn (nn .nil (nn .nil (nn (nn .nil (nn .nil (nn .nil (lf x305)))) .nil))) (nd x24 (nn (nn .nil (nn (nn (nn (lf x1750) .nil) .nil) .nil)) .nil) .nil)) (nn (nn (nn .nil (nn (nn .nil (nn .nil (nn .nil (lf x1281)))) .nil)) (lf x220)) m991))
def m1752 : PM AObj := (nn (nn (nd x288 (nn m1674 m1741) (nn m1742 m1645)) (nn (nn (nn m1274 (nn m1417 (nd x42 (lf x43) .nil))) m1744) m1747)) (nn (nn m1749 m1678) (nn (nd x33 m1115 m1624) (nn m1199 m1751))))
def m1753 : PM AObj := (nd x1582 (nn m1736 (nn m1740 (nn (nd x35 m1060 (nn m1407 (nn m1408 (nn .nil (nn .nil (nn (nn (nn (nn (lf x963) .nil) .nil) .nil) .nil)))))) (nn m1163 m1272)))) m1752)
def m1754 : PM AObj := (nd x54 (nd x54 (nn (nn (nn (nn (nn .nil (nn .nil (nn (lf x289) .nil))) .nil) .nil) .nil) (nn .nil (nn .nil (nn (nn (nn (lf x998) .nil) .nil) .nil)))) .nil) (nn (nn .nil (nd x108 (nn .nil (nn .nil (nn .nil (nn .nil (lf x64))))) .nil)) (nn (nn (nn (nn (nn (nn .nil (lf x1207)) .nil) .nil) .nil) .nil) .nil)))
def x1755 : AObj := (.row 192 1 0 [(.s (.sl 44943 0 0 2 true))])
def m1756 : PM AObj := (nn (nn .nil (nn .nil (nn .nil (nn .nil (nn .nil (nn (nn .nil (nn (lf x1755) .nil)) .nil)))))) (nn (nn .nil (nd x87 (nn (nn (nn (nn .nil (lf x24)) .nil) .nil) .nil) .nil)) .nil))
def m1757 : PM AObj := (nn (nn (nn (nn (nn (nn .nil (nn (nn (nn (nn .nil (nn (lf x274) .nil)) .nil) .nil) m1431)) (nn m1682 .nil)) m1754) (nn m1756 m1649)) (nn m1684 (nd x56 m1439 m1440))) (nn (nn (nn m1442 m1627) (nn m1011 m324)) m1686))
def m1758 : PM AObj := (nn (nn (nn (nn (nn .nil (nn .nil (nn (lf x1275) .nil))) .nil) (nn .nil (nn .nil (nn .nil (lf x1401))))) .nil) (nn .nil (nn (nn .nil (nn .nil (nn .nil (lf x1403)))) .nil)))
def m1759 : PM AObj := (nn (nn (nn (nn .nil (nn (nn .nil (nn (nn (nn (lf x1020) .nil) .nil) .nil)) .nil)) .nil) m1453) (nn m1021 (nn (nn (nn (nn (nn .nil (nn (lf x24) .nil)) .nil) .nil) (nn (nn .nil (nn .nil (nn .nil (nn .nil (lf x1198))))) .nil)) m1758)))
def m1760 : PM AObj := (nn (nn (nn (nn (nn .nil (nn .nil (nn (lf x1287) .nil))) .nil) .nil) (nn (nn (nn (nn (lf x272) .nil) .nil) .nil) .nil)) (nn .nil (nn .nil (nn (nn .nil (nn (nn (lf x1196) .nil) .nil)) .nil))))
def m1761 : PM AObj := (nn (nn m1760 (nn .nil (nn (nn (nn .nil (nn .nil (nn .nil (lf x1296)))) .nil) .nil))) (nn .nil (nn .nil (nn (nn .nil (nn (nn (nn (lf x950) .nil) .nil) .nil)) .nil))))
def m1762 : PM AObj := (nn (nn m1452 m1759) (nn (nd x54 m1248 (nn .nil (nn m1295 .nil))) (nn (nn (nn .nil m1143) (nn (nn .nil (nn (nn (nn (nn (nn (lf x307) .nil) .nil) .nil) .nil) .nil)) .nil)) m1761)))
def m1763 : PM AObj := (nn (nn (nn (nn (nn .nil (nn .nil (nn (lf x24) .nil))) .nil) .nil) (nn .nil (nn (nn (nn (lf x276) .nil) .nil) .nil))) (nd x66 .nil (nn (nn (nn (nn (lf x261) .nil) .nil) .nil) .nil)))
def m1764 : PM AObj := (nn (nn (nn (nn .nil (nn .nil (nn (lf x24) .nil))) .nil) .nil) (nn (nn (nn (nn (lf x350) .nil) .nil) .nil) (nn .nil (nn .nil (nn .nil (lf x276))))))
def m1765 : PM AObj := (nn (nn (nn m1764 (nn .nil (nn .nil (nn (nn (nn (lf x1037) .nil) .nil) .nil)))) (nn (nn (nn (nn .nil (nn (nn (lf x1219) .nil) .nil)) .nil) .nil) .nil)) m1461)
def m1766 : PM AObj := (nn (nn (nn m1124 (nn m1763 (nn (lf x24) .nil))) m1634) (nn m1765 (nn (nn .nil (nn (nd x24 (nn .nil (nn (nn (nn (lf x1039) .nil) .nil) .nil)) .nil) .nil)) (nd x353 (nn .nil (lf x354)) m1040))))
def s1767 : St := ⟨(nd x1386 m1753 (nd x995 m1757 (nn m1762 (nn (nn m1692 m1703) m1766)))), 45402, 0⟩
def w1768 : Dr := ⟨f1732, s1767, [], [⟨4, 0, p1726, .load true 2 (.t 7), (.v u1182)⟩, ⟨3, 7, p1728, .load false 1 (.t 19), (vp 17682 0 0)⟩]⟩
theorem t1769 : PC (evO badP allP Ot A 1000000 194) 1000000 k546 f1303 s1723 .normal f1304 s1723 := fun K => by kernel_rfl
theorem o1770 : PX (evO badP allP Ot A 1000000 194) r550 f1304 s1723 f1306 s1723 := fun r K => by kernel_rfl
theorem t1771 : PC (evO badP allP Ot A 1000000 193) 1000000 k555 f1303 s1723 .normal f1309 s1723 := fun K => by kernel_rfl
def k1772 : ACode := .region [V 13 0,
E 14 (.callf 210 [(.t 13)]),
Q 15 (.un .not (.t 14)),
V 12 15]
def m1774 : PM AVal := (nd (vp 17682 0 0) (nd (vs [2, 0]) (nn (nn (lf (vb false)) .nil) .nil) (nd (vi 0) .nil (lf (vp 17682 0 0)))) (nn (nd (vi 0) .nil (lf (vb false))) (nn .nil (lf (vb true)))))
def f1775 : Fr := ⟨m1774, [], none⟩
theorem t1773 : PC (evO badP allP Ot A 1000000 193) 1000000 k1772 f1309 s1723 .normal f1775 s1723 := fun K => by kernel_rfl
def k1776 : ACode := .region [V 17 1,
Q 18 (.len .str (.t 17)),
Q 19 (.bin .gtr .scalar (.t 18) (ci 100000)),
V 16 19]
def m1778 : PM AVal := (nd (vs [2, 0]) (nn (nn (lf (vb false)) .nil) (nn (lf (vb false)) .nil)) (nd (vi 0) (nn (lf (vs [2, 0])) .nil) (lf (vp 17682 0 0))))
def m1779 : PM AVal := (nn (nd (vi 0) (nn (lf (vb false)) .nil) (lf (vb false))) (nn (nn (lf (vi 2)) .nil) (lf (vb true))))
def f1780 : Fr := ⟨(nd (vp 17682 0 0) m1778 m1779), [], none⟩
theorem t1777 : PC (evO badP allP Ot A 1000000 193) 1000000 k1776 f1775 s1723 .normal f1780 s1723 := fun K => by kernel_rfl
def r1781 : List AOper := [V 21 0, Q 22 (.nilck (.t 21)), Q 23 (.faddr 0 (.t 22)), Q 24 (.load false 1 (.t 23))]
def m1782 : PM AVal := (nd (vs [2, 0]) (nn (nn (lf (vb false)) (lf (vp 17682 0 0))) (nn (lf (vb false)) .nil)) (nd (vi 0) (nn (lf (vs [2, 0])) .nil) (nd (vp 17682 0 0) (lf (vp 17682 0 0)) .nil)))
def m1783 : PM AVal := (nn (nd (vi 0) (nn (lf (vb false)) (lf (vp 17598 0 0))) (lf (vb false))) (nn (nn (lf (vi 2)) .nil) (nd (vb true) (lf (vp 17682 0 0)) .nil)))
def f1784 : Fr := ⟨(nd (vp 17682 0 0) m1782 m1783), [], none⟩
theorem o1785 : PX (evO badP allP Ot A 1000000 193) r1781 f1780 s1723 f1784 s1723 := fun r K => by kernel_rfl
def r1786 : List AOper := [E 25 (.callf 254 [(.t 24)])]
end Go.Proofs.YtcdebohjjkffkaaGreat.tr
