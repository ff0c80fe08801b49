/- A closed run, printed by program: piece by piece. -/
import Derived.Test.YtcdebohjjkffkaaGreatRn7
namespace Go.Proofs.YtcdebohjjkffkaaGreat.tr
open Go Go.Rf
set_option maxRecDepth 1000000
def k1787 : ACode := .seq (
.region [Q 2 (.mov (ci 0))]) (
.seq (
.region [Q 3 (.mov (ci 0))]) (
.seq (
.seq (
.region [V 5 0,
E 6 (.callf 195 [(.t 5)]),
Q 7 (.mov (ci 0))]) (
.block 0 (
.loop (
.seq (
.region [Q 8 (.bin .lss .scalar (.t 7) (.t 6))]) (
.seq (
.cond (.t 8) (
.skip) (
.exit 0)) (
.seq (
.block 1 (
.seq (
.region [V 9 7,
V 4 9]) (
.seq (
.region [V 10 0,
V 11 4,
E 12 (.callf 196 [(.t 10), (.t 11)])]) (
.cond (.t 12) (
.region [V 13 3,
Q 14 (.bin .add .scalar (.t 13) (ci 1)),
V 3 14]) (
.skip))))) (
.region [Q 15 (.bin .add .scalar (.t 7) (ci 1)),
V 7 15]))))))) (
.seq (
.region [V 16 3,
V 2 16]) (
.ret))))
def f1789 : Fr := ⟨(lf (vp 17598 0 0)), [], none⟩
def m1790 : PM AVal := (nn (nd (vi 196) (nd (vi 200) (lf (vi 200)) .nil) (lf (vi 199))) (nd (vp 17598 0 0) (lf (vi 199)) (lf (vi 195))))
def m1791 : PM AVal := (nd (vi 196) (nd (vi 199) (nd (vb false) (lf (vi 196)) .nil) (lf (vb true))) (nd (vi 200) (lf (vp 17598 0 0)) (lf (vi 196))))
def f1792 : Fr := ⟨(nd (vp 17598 0 0) m1790 m1791), [], none⟩
def s1793 : St := ⟨(nd x1386 (nd x1582 m1722 (nn (nn m1675 (nn (nn (nn m1274 (nn m1417 (nd x42 (lf x43) .nil))) m1418) (nn m1424 m979))) m1681)) m1704), 44943, 0⟩
theorem t1788 : PC (evO badP allP Ot A 1000000 192) 1000000 k1787 f1789 s1723 .ret f1792 s1793 := fun K => by kernel_rfl
def g1794 : List Vl := [(.one (.s (.ptr 17598 0 0)))]
theorem cc1795k : a254.code = k1787 := by kernel_rfl
theorem cc1795 : PKO Ot A 1000000 193 254 g1794 s1723 (vi 196) s1793 := PKO.mk (af := a254) (K := k1787) (f := f1789) (s0 := s1723) (by kernel_rfl) (by kernel_rfl) cc1795k (by kernel_rfl) (by kernel_rfl) t1788 (fun K PN => by kernel_rfl)
def m1796 : PM AVal := (nd (vi 0) (nn (lf (vs [2, 0])) (lf (vi 196))) (nd (vp 17682 0 0) (lf (vp 17682 0 0)) .nil))
def m1797 : PM AVal := (nd (vp 17682 0 0) (nd (vs [2, 0]) (nn (nn (lf (vb false)) (lf (vp 17682 0 0))) (nn (lf (vb false)) .nil)) m1796) m1783)
def f1798 : Fr := ⟨m1797, [], none⟩
theorem o1799 : PX (evO badP allP Ot A 1000000 193) [⟨some 25, .e (.callf 254 [(.t 24)]), none, 0⟩] f1784 s1723 f1798 s1793 := PX.callO (by kernel_rfl) (by kernel_rfl) cc1795 (by kernel_rfl)
def r1800 : List AOper := [V 26 0, V 27 1, Q 28 (.len .str (.t 27)), E 29 (.callf 255 [(.t 26), (.t 28)]), Q 30 (.bin .lss .scalar (.t 25) (.t 29)), V 20 30]
theorem o1801 : PX (evO badP allP Ot A 1000000 193) r1800 f1798 s1793 f1315 s1793 := fun r K => by kernel_rfl
def r1802 : List AOper := r1800 ++ []
theorem o1803 : PO (evO badP allP Ot A 1000000 193) r1802 f1798 s1793 .normal f1315 s1793 := PO.app o1801 PO.nil
def r1804 : List AOper := r1786 ++ r1802
theorem o1805 : PO (evO badP allP Ot A 1000000 193) r1804 f1784 s1723 .normal f1315 s1793 := PO.app o1799 o1803
def r1806 : List AOper := r1781 ++ r1804
theorem o1807 : PO (evO badP allP Ot A 1000000 193) r1806 f1780 s1723 .normal f1315 s1793 := PO.app o1785 o1805
def k1808 : ACode := .region r1806
theorem t1809 : PC (evO badP allP Ot A 1000000 193) 1000000 k1808 f1780 s1723 .normal f1315 s1793 := PC.region o1807
def k1810 : ACode := .cond (.t 20) (
.seq (
.region [Q 4 (.mov (ci 0)),
Q 5 (.mov (ci 3))]) (
.ret)) (
.skip)
theorem t1811 : PC (evO badP allP Ot A 1000000 193) 1000000 k1810 f1315 s1793 .normal f1315 s1793 := fun K => by kernel_rfl
def k1812 : ACode := .seq k1808 k1810
theorem t1813 : PC (evO badP allP Ot A 1000000 193) 1000000 k1812 f1780 s1723 .normal f1315 s1793 := PC.seq t1809 t1811
def k1814 : ACode := .seq (
.region [Q 4 (.mov (ci 0)),
Q 5 (.mov (ci 19))]) (
.ret)
def k1815 : ACode := .cond (.t 16) k1814 k1812
theorem t1816 : PC (evO badP allP Ot A 1000000 193) 1000000 k1815 f1780 s1723 .normal f1315 s1793 := PC.condF (by kernel_rfl) t1813
def k1817 : ACode := .seq k1776 k1815
theorem t1818 : PC (evO badP allP Ot A 1000000 193) 1000000 k1817 f1775 s1723 .normal f1315 s1793 := PC.seq t1777 t1816
def k1819 : ACode := .seq (
.region [Q 4 (.mov (ci 0)),
Q 5 (.mov (ci 13))]) (
.ret)
def k1820 : ACode := .cond (.t 12) k1819 k1817
theorem t1821 : PC (evO badP allP Ot A 1000000 193) 1000000 k1820 f1775 s1723 .normal f1315 s1793 := PC.condF (by kernel_rfl) t1818
def k1822 : ACode := .seq k1772 k1820
theorem t1823 : PC (evO badP allP Ot A 1000000 193) 1000000 k1822 f1309 s1723 .normal f1315 s1793 := PC.seq t1773 t1821
def k1824 : ACode := .block 0 k1822
theorem t1825 : PC (evO badP allP Ot A 1000000 193) 1000000 k1824 f1309 s1723 .normal f1315 s1793 := PC.block t1823 rfl
def m1827 : PM AVal := (nd (vp 17682 0 0) (nd (vp 17682 0 0) (lf (vi 1)) .nil) (nd (vi 1) (lf (vi 3)) .nil))
def m1828 : PM AVal := (nd (.v (.one (.s (.sl 45088 1 0 2 false)))) (nd (vb false) (nd (vp 17682 0 0) (lf (vp 17682 0 0)) .nil) (nd (vi 3) (lf (.v (.one (.s (.d h1289))))) .nil)) m1827)
def m1829 : PM AVal := (nd (vb false) (nd (vi 1) (lf (vp 45088 1 0)) .nil) (nd (.v (.one (.s (.sl 45088 0 0 1 false)))) (lf (vi 0)) .nil))
def m1830 : PM AVal := (nd (vs [2, 0]) (nd (.v (.one (.s (.sl 44945 0 0 1 false)))) (lf (.v (.one (.s (.sl 45088 1 0 2 false))))) .nil) (nd (.v (.one (.s (.sl 45088 0 0 1 false)))) (lf (vs [2, 2, 0])) .nil))
def m1831 : PM AVal := (nd (vi 0) m1830 (nd (vi 196) (nd (vp 17682 0 0) (lf (vi 0)) .nil) (lf (vb false))))
def m1832 : PM AVal := (nd (vp 17682 0 0) (nd (vp 17682 0 0) (nd (vb false) (lf (.v (.one (.s (.sl 45088 1 0 2 false))))) .nil) (nd (.v (.one (.s (.sl 45088 1 0 2 false)))) (lf (.v (.one (.s (.sl 45088 1 0 2 false))))) .nil)) (nd (vi 1) (nd (vi 0) (lf (.v (.one (.s (.d (.int .u8 (.ofNat 2))))))) .nil) (lf (vp 17682 0 0))))
def m1833 : PM AVal := (nd (vs [2, 0]) (nn m1828 (nd (.v (.one (.s (.d h1289)))) m1829 (nd (vs [2, 0]) (nd y573 (lf (.v (.one (.s (.d h1289))))) .nil) (lf (vp 44945 0 0))))) (nd (vi 0) m1831 m1832))
def m1834 : PM AVal := (nd (vi 3) (nd (vb false) (nd (vs [2, 0]) (lf (vp 17598 0 0)) .nil) (nd (.v (.one (.s (.sl 45087 0 0 1 true)))) (lf (.v (.one (.s (.sl 45114 0 0 3 false))))) .nil)) (nd (vp 17598 0 0) (nd (vp 17682 0 0) (lf (vp 45088 1 1)) .nil) (lf (vi 1))))
def m1835 : PM AVal := (nd (vb false) (nd (vi 1) (lf (vi 3)) .nil) (nd (.v (.one (.s (.sl 45089 0 0 1 true)))) (lf (vi 1)) .nil))
def m1836 : PM AVal := (nd (vb false) m1835 (nd (vi 2) (nd (vi 3) (lf (vi 2)) .nil) (lf (.v (.one (.s (.d h1289)))))))
def m1837 : PM AVal := (nd (vi 2) (nd (.v (.one (.s (.sl 44945 0 0 1 false)))) (lf (vi 0)) .nil) (nd (vi 1) (lf (vs [0, 0, 2, 2, 0])) .nil))
def m1838 : PM AVal := (nd (vb true) (nd (vp 17682 0 0) (nd y573 (lf (vi 0)) .nil) (nd (.v (.one (.s (.sl 44945 0 0 1 false)))) (lf (vp 45088 1 0)) .nil)) (nd (vb false) (nd (.v (.one (.s (.d (.sl [] true))))) (lf (.v (.one (.s (.sl 45107 0 0 1 true))))) .nil) (lf (vp 17682 0 0))))
def m1839 : PM AVal := (nd (.v (.one (.s (.sl 44945 0 0 1 false)))) (nd (vi 0) m1837 (nd (vp 17682 0 0) (nd (vp 17598 0 0) (lf (vs [0, 0])) .nil) (lf (vi 0)))) m1838)
def f1840 : Fr := ⟨(nd (vp 17682 0 0) m1833 (nn (nd (vi 3) m1834 m1836) m1839)), [], none⟩
def m1841 : PM AObj := (nn (nn (nn m1393 (nn (nn (nn (nn (nn .nil (nn (lf x276) .nil)) .nil) .nil) (nn (nn .nil (nn .nil (nn .nil (nn .nil (lf x1394))))) .nil)) .nil)) m1619) (nn (nn (nn m1398 (nn (nn (nn .nil (nn (nn (nn (lf x27) .nil) .nil) .nil)) .nil) .nil)) m1400) (nn m1737 (nn m1669 m1404))))
def m1842 : PM AObj := (nn (nn (nn (nn (nn m1059 (nn (nn .nil (nn (nn (nn (nn (nn (lf x24) .nil) .nil) .nil) .nil) .nil)) .nil)) m1733) m1735) (nn (nn m949 m1665) m1667)) (nn m1841 (nn (nd x35 m1060 (nn m1407 (nn m1408 (nn .nil (nn .nil (nn (nn (nn (nn (lf x963) .nil) .nil) .nil) .nil)))))) (nn m1163 m1272))))
def m1843 : PM AObj := (nn (nn (nn m1274 (nn m1417 (nd x42 (lf x43) .nil))) m1418) (nn m1424 (nn m1746 (nn .nil (nn .nil (nn (nn .nil (nn (nn (nn (lf x305) .nil) .nil) .nil)) .nil))))))
def m1844 : PM AObj := (nn (nn (nn (nn (nn (nn (nn .nil (nn .nil (nn (lf x1262) .nil))) .nil) (nn (nn (nn (lf x981) .nil) .nil) .nil)) .nil) .nil) .nil) (nn (nn (nn (nn (nn .nil (nn (lf x33) .nil)) .nil) .nil) (nn .nil (nn .nil (nn (nn (nn (lf x30) .nil) .nil) .nil)))) .nil))
def x1845 : AObj := (.map (.int .i64) [⟨[(.int .i64 (.ofNat 0))], 4, (.one (.s (.d h1337)))⟩, ⟨[(.int .i64 (.ofNat 2))], 5, (.one (.s (.d h1200)))⟩, ⟨[(.int .i64 (.ofNat 3))], 6, (.one (.s (.d h1278)))⟩] 7)
def m1846 : PM AObj := (nd x29 (nn (nn .nil (nn .nil (nn (nn .nil (nn .nil (nn .nil (lf x305)))) .nil))) (nd x24 (nn (nn .nil (nn (nn (nn (lf x1845) .nil) .nil) .nil)) .nil) .nil)) (nn (nn (nn .nil (nn (nn .nil (nn .nil (nn .nil (lf x1281)))) .nil)) (lf x220)) m991))
def m1847 : PM AObj := (nn (nn (nn m1844 (nn m1676 (nn (nn .nil (nn (nn (nn (nn (nn .nil (lf x1196)) .nil) .nil) (nn .nil (nn .nil (nn .nil (lf x1142))))) .nil)) .nil))) m1678) (nn (nd x33 m1115 m1624) (nn m1199 m1846)))
def m1848 : PM AObj := (nn (nn m1452 (nn (nn (nn (nn .nil (nn (nn .nil (nn (nn (nn (lf x1020) .nil) .nil) .nil)) .nil)) .nil) m1453) (nn m1021 m1687))) (nn (nd x54 m1248 (nn .nil (nn m1295 .nil))) (nn (nn (nn .nil m1143) (nn (nn .nil (nn (nn (nn (nn (nn (lf x307) .nil) .nil) .nil) .nil) .nil)) .nil)) m1761)))
def s1849 : St := ⟨(nd x1386 (nd x1582 m1842 (nn (nn (nd x288 (nn m1674 m1741) (nn m1742 m1645)) m1843) m1847)) (nd x995 m1757 (nn m1848 (nn (nn m1692 m1703) m1766)))), 45135, 0⟩
theorem t1826 : PC (evO badP allP Ot A 1000000 193) 1000000 k568 f1315 s1793 .ret f1840 s1849 := fun K => by kernel_rfl
def k1850 : ACode := .seq k1824 k568
theorem t1851 : PC (evO badP allP Ot A 1000000 193) 1000000 k1850 f1309 s1723 .ret f1840 s1849 := PC.seq t1825 t1826
def k1852 : ACode := .seq k555 k1850
theorem t1853 : PC (evO badP allP Ot A 1000000 193) 1000000 k1852 f1303 s1723 .ret f1840 s1849 := PC.seq t1771 t1851
theorem cc1854k : a191.code = k1852 := by kernel_rfl
theorem cc1854 : PKO Ot A 1000000 194 191 g1347 s1723 y573 s1849 := PKO.mk (af := a191) (K := k1852) (f := f1303) (s0 := s1723) (by kernel_rfl) (by kernel_rfl) cc1854k (by kernel_rfl) (by kernel_rfl) t1853 (fun K PN => by kernel_rfl)
def m1855 : PM AVal := (nd (vp 17682 0 0) (nd (vs [2, 0]) .nil (nn (lf (vs [2, 0])) .nil)) (nn (nd (vi 0) (lf (vp 17682 0 0)) .nil) (nn (lf y573) .nil)))
def f1856 : Fr := ⟨m1855, [], none⟩
theorem o1857 : PX (evO badP allP Ot A 1000000 194) [⟨some 10, .e (.callf 191 [(.t 8), (.t 9)]), none, 0⟩] f1306 s1723 f1856 s1849 := PX.callO (by kernel_rfl) (by kernel_rfl) cc1854 (by kernel_rfl)
def m1858 : PM AVal := (nd (vp 17682 0 0) (nd (vs [2, 0]) (nn (lf y573) (lf (vi 3))) (nd (vi 3) (lf (vs [2, 0])) .nil)) (nn (nd (vi 0) (lf (vp 17682 0 0)) (lf (vi 0))) (nd (vi 0) (lf y573) .nil)))
def f1859 : Fr := ⟨m1858, [], none⟩
theorem o1860 : PX (evO badP allP Ot A 1000000 194) r601 f1856 s1849 f1859 s1849 := fun r K => by kernel_rfl
theorem o1861 : PO (evO badP allP Ot A 1000000 194) r605 f1856 s1849 .normal f1859 s1849 := PO.app o1860 PO.nil
theorem o1862 : PO (evO badP allP Ot A 1000000 194) r607 f1306 s1723 .normal f1859 s1849 := PO.app o1857 o1861
theorem o1863 : PO (evO badP allP Ot A 1000000 194) r609 f1304 s1723 .normal f1859 s1849 := PO.app o1770 o1862
theorem t1864 : PC (evO badP allP Ot A 1000000 194) 1000000 k611 f1304 s1723 .normal f1859 s1849 := PC.region o1863
def m1866 : PM AVal := (nd (vi 3) (nd (vs [2, 0]) (lf (vp 17682 0 0)) (lf (vs [82]))) (nd (vi 0) (lf (vp 17682 0 0)) (lf (vi 0))))
def m1867 : PM AVal := (nd (vs [2, 0]) (nn (nd y573 .nil (lf (vp 17598 0 0))) (nd (vi 3) (lf (vi 0)) (lf (vs [0, 3])))) m1866)
def m1868 : PM AVal := (nd (vi 0) (nd (vp 17682 0 0) (lf (vp 17682 0 0)) (lf (.v (.one (.s (.sl 45375 0 0 1 true)))))) (nd (vi 0) (lf (vp 17682 0 0)) (lf (vs [82, 0, 3]))))
def m1869 : PM AVal := (nd (vi 0) (nd y573 (lf (vi 4)) (lf (vi 3))) (nd (vb false) (lf (vp 17682 0 0)) .nil))
def f1870 : Fr := ⟨(nd (vp 17682 0 0) m1867 (nn m1868 m1869)), [], none⟩
theorem t1865 : PC (evO badP allP Ot A 1000000 194) 1000000 k613 f1859 s1849 .ret f1870 s1767 := fun K => by kernel_rfl
theorem t1871 : PC (evO badP allP Ot A 1000000 194) 1000000 k620 f1304 s1723 .ret f1870 s1767 := PC.seq t1864 t1865
theorem t1872 : PC (evO badP allP Ot A 1000000 194) 1000000 k622 f1303 s1723 .ret f1870 s1767 := PC.seq t1769 t1871
theorem cc1873k : a251.code = k622 := by kernel_rfl
theorem cc1873 : PKO Ot A 1000000 195 251 g1347 s1723 (vi 0) s1767 := PKO.mk (af := a251) (K := k622) (f := f1303) (s0 := s1723) (by kernel_rfl) (by kernel_rfl) cc1873k (by kernel_rfl) (by kernel_rfl) t1872 (fun K PN => by kernel_rfl)
theorem d1874 : PD (evO badP allP Ot A 1000000 195) 38743 q507 [⟨6, ⟨some 23, .e (.callf 251 [(.t 20), (.t 22)]), none, 63⟩⟩] w1729 w1768 := PD.callO (by kernel_rfl) (by kernel_rfl) (by kernel_rfl) cc1873 (by kernel_rfl) (by kernel_rfl)
theorem d1875 : PD (evO badP allP Ot A 1000000 195) 38743 q507 q626 w1768 w1768 := fun r K => by kernel_rfl
theorem d1876 : PR (evO badP allP Ot A 1000000 195) 38743 q507 [] w1768 f1732 s1767 := fun K => by kernel_rfl
theorem d1877 : PR (evO badP allP Ot A 1000000 195) 38743 q507 q629 w1768 f1732 s1767 := PR.app d1875 d1876
theorem d1878 : PR (evO badP allP Ot A 1000000 195) 38743 q507 q631 w1729 f1732 s1767 := PR.app d1874 d1877
theorem d1879 : PR (evO badP allP Ot A 1000000 195) 38743 q507 q633 w1716 f1732 s1767 := PR.app d1730 d1878
theorem t1880 : PC (evO badP allP Ot A 1000000 195) 1000000 k635 f1714 s1705 .normal f1732 s1767 := PC.drawN (by kernel_rfl) (by kernel_rfl) (by kernel_rfl) d1879
theorem t1881 : PC (evO badP allP Ot A 1000000 195) 1000000 k637 f1714 s1705 .normal f1732 s1767 := PC.condT (by kernel_rfl) t1880
theorem t1882 : PC (evO badP allP Ot A 1000000 195) 1000000 k639 f1702 s1705 .normal f1732 s1767 := PC.seq t1711 t1881
end Go.Proofs.YtcdebohjjkffkaaGreat.tr
