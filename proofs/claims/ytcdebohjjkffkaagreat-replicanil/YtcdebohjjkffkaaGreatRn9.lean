/- A closed run, printed by program: piece by piece. -/
import Derived.Test.YtcdebohjjkffkaaGreatRn8
namespace Go.Proofs.YtcdebohjjkffkaaGreat.tr
open Go Go.Rf
set_option maxRecDepth 1000000
def m1884 : PM AVal := (nn (nd (vp 38742 0 0) (nd (vi 0) (lf (vp 17686 0 0)) .nil) (nd (vi 0) (lf (vp 17686 0 5)) .nil)) (nd (vc e1652) (nd (vp 17686 0 1) (lf (vi 6)) (lf (vb false))) .nil))
def m1885 : PM AVal := (nn (nd (vi 6) (nd (vp 17686 0 0) (lf (vp 17686 0 0)) .nil) (nd (vb false) (lf (vb false)) .nil)) (nd (.v u1182) (nd (.v u1182) (lf (vp 17686 0 0)) .nil) .nil))
def m1886 : PM AVal := (nd (vi 0) (nd (vb true) (lf (vp 17686 0 0)) .nil) (nd (vi 0) (lf (vi 6)) .nil))
def m1887 : PM AVal := (nd (vi 6) (nd (.tup [u1182, (.one (xi 0))]) (nd (vp 17686 0 0) (lf (vp 17598 0 0)) .nil) (nn (lf (vb false)) .nil)) (nd (vi 0) (nd (vs [2, 0]) (lf (vp 17686 0 0)) .nil) .nil))
def m1888 : PM AVal := (nd (vc e1652) (nn m1886 (nd (.tup [u1182, (.one (xi 0))]) (nd (vp 17682 0 0) (lf (vi 6)) (lf (vb false))) .nil)) m1887)
def f1889 : Fr := ⟨(nd (vp 17686 0 0) (nd (vp 32099 0 0) m1884 m1885) m1888), [], none⟩
def e1890 : Cell := (.fn (.func 203) 203 [] [⟨false, [(.ptr 45402 0 0)]⟩, ⟨false, [(.ptr 45409 0 0)]⟩])
def e1891 : Cell := (.fn (.func 206) 206 [] [⟨false, [(.ptr 45402 0 0)]⟩])
def x1892 : AObj := (.row 84 1 0 [e1890, e1420, e1891, e1422])
def m1893 : PM AObj := (nd x260 (nn (nn (nn .nil (nn .nil (nn (lf x1892) .nil))) .nil) .nil) (nn (nn .nil (nn .nil (nn .nil (lf x1261)))) (nn .nil (nn (nn .nil (nn (lf x1296) .nil)) .nil))))
def m1894 : PM AObj := (nn (nn (nn .nil (lf x24)) (nd x25 .nil m1893)) (nn (nn (nn .nil (nn (nn .nil (nn .nil (nn .nil (lf x1262)))) .nil)) (nd x83 .nil (nn (nn (nn (nn (lf x261) .nil) .nil) .nil) .nil))) .nil))
def m1895 : PM AObj := (nn (nn (nn m1059 (nn (nn .nil (nn (nn (nn (nn (nn (lf x24) .nil) (nn .nil (nn (lf x45) .nil))) .nil) .nil) .nil)) .nil)) m1733) (nn m1894 (nn m1391 (nd x26 (nn .nil m1616) (nn (lf x27) .nil)))))
def m1896 : PM AObj := (nn (nn m1895 (nn (nn m949 m1665) m1667)) (nn m1740 (nn (nd x35 m1060 (nn m1407 (nn m1408 (nn .nil (nn .nil (nn (nn (nn (nn (lf x963) .nil) .nil) .nil) .nil)))))) (nn m1163 m1272))))
def h1897 : Dat := (.str [4, 0, 1, 14, 1, 3, 82, 0, 3, 2, 25, 0, 0, 24, 1, 6, 5, 1, 1, 5, 16, 1, 116, 1, 2, 2, 105, 100, 2, 1, 4, 110, 97, 109, 101, 5, 3, 4, 0, 0, 2, 2])
def x1898 : AObj := (.row 9 1 0 [(.s (.d h1897))])
def m1899 : PM AObj := (nd x723 (nn (nn (nn .nil (nn .nil (nn (lf x1898) .nil))) .nil) (nn .nil (nn .nil (nn .nil (lf x276))))) (nn .nil (nn (nn (nn (lf x970) .nil) .nil) .nil)))
def m1900 : PM AObj := (nd x38 (nd x39 (nn (nn (nn (nn (nn .nil (nn .nil (nn (lf x33) .nil))) .nil) .nil) .nil) (nn .nil (nn .nil (nn (nn (nn (lf x969) .nil) .nil) .nil)))) .nil) (nn (nn .nil m1899) (nn (nn (nn (nn (nn (nn .nil (lf x1191)) .nil) .nil) .nil) .nil) .nil)))
def m1901 : PM AObj := (nn (nn m1743 (nd x45 .nil (nn (nn (nn (nn .nil (nn .nil (nn (lf x1898) .nil))) .nil) .nil) .nil))) (nn (nn (nn .nil (nn (nn .nil (nn .nil (nn .nil (lf x1275)))) .nil)) (nn .nil (nn (nn (nn (nn (lf x33) .nil) .nil) .nil) .nil))) .nil))
def m1902 : PM AObj := (nn (nd x288 (nn m1674 m1900) (nn m1742 m1645)) (nn (nn (nn m1274 (nn m1417 (nd x42 (lf x43) (nn (nn (nn (nn .nil (nn .nil (nn (lf x350) .nil))) .nil) .nil) .nil)))) m1901) m1747))
def x1903 : AObj := (.row 305 8 0 [(.s (.ptr 1 0 0)), (xi 0), (xi 98), (xi 5), (xi 5), (xi 0), (.s (.d (.sl [] true))), (.s (.d (.bool true)))])
def m1904 : PM AObj := (nd x58 (nn (nn (nn (nn .nil (lf x24)) .nil) .nil) .nil) (nn (nn (nn (nn (lf x1903) .nil) .nil) .nil) (nn (nn (nn (lf x1066) .nil) .nil) .nil)))
def m1905 : PM AObj := (nn (nn .nil (nd x55 .nil (nn .nil (nn (nn .nil (nn (nn (lf x33) .nil) .nil)) .nil)))) (nd x24 .nil (nn (nn (nn (nn .nil (nn .nil (nn (lf x1898) .nil))) .nil) .nil) .nil)))
def m1906 : PM AObj := (nn (nn (nn (nn (nn .nil (nn (nn (nn (nn .nil (nn (lf x274) .nil)) .nil) .nil) m1904)) (nn m1682 .nil)) m1754) (nn m1756 m1649)) (nn (nn (nn m1436 (nn (nn (nn (nn .nil (nn (nn (nn (lf x1001) .nil) .nil) .nil)) .nil) .nil) (nn (lf x43) .nil))) (nn m1905 m1437)) (nd x56 m1439 m1440)))
def m1907 : PM AObj := (nn (nd x54 m1248 (nn .nil (nn m1295 .nil))) (nn (nn (nn .nil m1143) (nn (nn .nil (nn (nn (nn (nn (nn (lf x307) .nil) (nn .nil (nn (lf x959) .nil))) .nil) .nil) .nil)) .nil)) m1761))
def x1908 : AObj := (.row 65 6 0 [(.s (.ptr 17598 0 0)), (.s (.ptr 17682 0 0)), (.s (.ptr 18316 0 0)), (xi 2), (.s (.d (.sl [] true))), (.s (.d (.bool true)))])
def m1909 : PM AObj := (nn (nn (nn .nil (nn .nil (nn (nn (nn (lf x990) .nil) .nil) .nil))) (nn (nn .nil (nn (nn (nn (lf x1908) .nil) .nil) .nil)) .nil)) (nn (lf x24) (nn .nil (nn .nil (nn (nn (nn (lf x30) .nil) .nil) .nil)))))
def m1910 : PM AObj := (nn (nn m1909 (nn (nn (lf x49) (nn .nil (nn .nil (nn (nn .nil (nn (nn (lf x1198) .nil) .nil)) .nil)))) .nil)) (nn m1694 (nn (nn (nn (nn (nn .nil (nn (lf x276) .nil)) .nil) (nn (nn (nn (nn (lf x308) .nil) .nil) .nil) .nil)) .nil) .nil)))
def x1911 : AObj := (.row 263 5 0 [(.s (.ptr 1 0 0)), (.s (.ptr 17280 0 0)), (xi 100), (.s (.mp 17597)), (.s (.d (.bool true)))])
def m1912 : PM AObj := (nn (nn (nn m1124 (nn m1763 (nn (lf x24) .nil))) m1634) (nn m1765 (nn (nn .nil (nn (nd x24 (nn .nil (nn (nn (nn (lf x1911) .nil) .nil) .nil)) .nil) .nil)) (nd x353 (nn .nil (lf x354)) m1040))))
def m1913 : PM AObj := (nd x1386 (nd x1582 m1896 (nn m1902 (nn (nn m1749 m1678) (nn (nd x33 m1115 m1624) (nn m1199 m1751))))) (nd x995 (nn m1906 (nn (nn (nn m1442 m1627) (nn m1011 m324)) m1686)) (nn (nn (nn m1452 m1759) m1907) (nn (nn m1692 m1910) m1912))))
def s1914 : St := ⟨m1913, 45519, 0⟩
theorem t1883 : PC (evO badP allP Ot A 1000000 195) 1000000 k641 f1732 s1767 .ret f1889 s1914 := fun K => by kernel_rfl
theorem t1915 : PC (evO badP allP Ot A 1000000 195) 1000000 k649 f1702 s1705 .ret f1889 s1914 := PC.seq t1882 t1883
theorem t1916 : PC (evO badP allP Ot A 1000000 195) 1000000 k651 f1658 s1651 .ret f1889 s1914 := PC.seq t1710 t1915
theorem t1917 : PC (evO badP allP Ot A 1000000 195) 1000000 k653 f1657 s1651 .ret f1889 s1914 := PC.seq t1656 t1916
def g1918 : List Vl := [(.one (.s (.ptr 17686 0 0))), (.one (.s (.ptr 32099 0 0))), (.one e1652)]
theorem cc1919k : a188.code = k653 := by kernel_rfl
theorem cc1919 : PKO Ot A 1000000 196 188 g1918 s1651 (vi 6) s1914 := PKO.mk (af := a188) (K := k653) (f := f1657) (s0 := s1651) (by kernel_rfl) (by kernel_rfl) cc1919k (by kernel_rfl) (by kernel_rfl) t1917 (fun K PN => by kernel_rfl)
def m1920 : PM AVal := (nd (vp 17686 0 0) (nd (vp 32099 0 0) (nd (vp 32113 0 0) (lf (vc e1652)) .nil) (lf (vp 17686 0 0))) (nd (vp 32112 0 0) (nd (vi 0) (lf (vi 6)) .nil) (lf (vp 32099 0 0))))
def f1921 : Fr := ⟨m1920, [], none⟩
theorem o1922 : PX (evO badP allP Ot A 1000000 196) [⟨some 8, .e (.callf 188 [(.t 5), (.t 6), (.t 7)]), none, 0⟩] f1654 s1651 f1921 s1914 := PX.callO (by kernel_rfl) (by kernel_rfl) cc1919 (by kernel_rfl)
def m1923 : PM AVal := (nd (vp 17686 0 0) (nd (vp 32099 0 0) (nd (vp 32113 0 0) (lf (vc e1652)) .nil) (lf (vp 17686 0 0))) (nd (vp 32112 0 0) (nd (vi 6) (lf (vi 6)) .nil) (lf (vp 32099 0 0))))
def f1924 : Fr := ⟨m1923, [], none⟩
theorem o1925 : PX (evO badP allP Ot A 1000000 196) r1473 f1921 s1914 f1924 s1914 := fun r K => by kernel_rfl
theorem o1926 : PO (evO badP allP Ot A 1000000 196) r1475 f1921 s1914 .normal f1924 s1914 := PO.app o1925 PO.nil
theorem o1927 : PO (evO badP allP Ot A 1000000 196) r1477 f1654 s1651 .normal f1924 s1914 := PO.app o1922 o1926
theorem o1928 : PO (evO badP allP Ot A 1000000 196) r1479 f1642 s1651 .normal f1924 s1914 := PO.app o1655 o1927
theorem t1929 : PC (evO badP allP Ot A 1000000 196) 1000000 k1481 f1642 s1651 .normal f1924 s1914 := PC.region o1928
theorem t1930 : PC (evO badP allP Ot A 1000000 196) 1000000 k670 f1924 s1914 .ret f1924 s1914 := fun K => by kernel_rfl
theorem t1931 : PC (evO badP allP Ot A 1000000 196) 1000000 k1484 f1642 s1651 .ret f1924 s1914 := PC.seq t1929 t1930
theorem t1932 : PC (evO badP allP Ot A 1000000 196) 1000000 k1486 f1641 s1637 .ret f1924 s1914 := PC.seq t1640 t1931
def g1933 : List Vl := [(.one (.s (.ptr 17686 0 0))), (.one (.s (.ptr 32099 0 0)))]
theorem cc1934k : a133.code = k1486 := by kernel_rfl
theorem cc1934 : PKO Ot A 1000000 197 133 g1933 s1637 (vi 6) s1914 := PKO.mk (af := a133) (K := k1486) (f := f1641) (s0 := s1637) (by kernel_rfl) (by kernel_rfl) cc1934k (by kernel_rfl) (by kernel_rfl) t1932 (fun K PN => by kernel_rfl)
def m1935 : PM AVal := (nn (nd (vi 0) (nd (vb false) (lf (vi 6)) .nil) (lf (vp 17686 0 0))) (nd (vi 0) (lf (vp 17686 0 0)) (lf (vp 18316 0 0))))
def f1936 : Fr := ⟨(nd (vp 17686 0 0) m1935 m1613), [], none⟩
theorem o1937 : PX (evO badP allP Ot A 1000000 197) [⟨some 15, .e (.callf 133 [(.t 9), (.t 14)]), none, 0⟩] f1614 s1637 f1936 s1914 := PX.callO (by kernel_rfl) (by kernel_rfl) cc1934 (by kernel_rfl)
def r1938 : List AOper := [V 2 15]
def m1939 : PM AVal := (nd (vi 6) (nd (vp 17686 0 0) .nil (lf (vp 17686 0 2))) (nd (vi 0) (lf (vp 17686 0 0)) (lf (vp 32099 0 0))))
def f1940 : Fr := ⟨(nd (vp 17686 0 0) m1935 m1939), [], none⟩
theorem o1941 : PX (evO badP allP Ot A 1000000 197) r1938 f1936 s1914 f1940 s1914 := fun r K => by kernel_rfl
def r1942 : List AOper := r1938 ++ []
theorem o1943 : PO (evO badP allP Ot A 1000000 197) r1942 f1936 s1914 .normal f1940 s1914 := PO.app o1941 PO.nil
def r1944 : List AOper := r1639 ++ r1942
theorem o1945 : PO (evO badP allP Ot A 1000000 197) r1944 f1614 s1637 .normal f1940 s1914 := PO.app o1937 o1943
def r1946 : List AOper := r1611 ++ r1944
theorem o1947 : PO (evO badP allP Ot A 1000000 197) r1946 f1610 s1583 .normal f1940 s1914 := PO.app o1638 o1945
def k1948 : ACode := .region r1946
theorem t1949 : PC (evO badP allP Ot A 1000000 197) 1000000 k1948 f1610 s1583 .normal f1940 s1914 := PC.region o1947
theorem t1950 : PC (evO badP allP Ot A 1000000 197) 1000000 k670 f1940 s1914 .ret f1940 s1914 := fun K => by kernel_rfl
def k1951 : ACode := .seq k1948 k670
theorem t1952 : PC (evO badP allP Ot A 1000000 197) 1000000 k1951 f1610 s1583 .ret f1940 s1914 := PC.seq t1949 t1950
def k1953 : ACode := .seq k1607 k1951
theorem t1954 : PC (evO badP allP Ot A 1000000 197) 1000000 k1953 f1606 s1583 .ret f1940 s1914 := PC.seq t1608 t1952
def k1955 : ACode := .seq k1590 k1953
theorem t1956 : PC (evO badP allP Ot A 1000000 197) 1000000 k1955 f1605 s1583 .ret f1940 s1914 := PC.seq t1604 t1954
def g1957 : List Vl := [(.one (.s (.ptr 17686 0 0)))]
theorem cc1958k : a79.code = k1955 := by kernel_rfl
theorem cc1958 : PKO Ot A 1000000 198 79 g1957 s1583 (vi 6) s1914 := PKO.mk (af := a79) (K := k1955) (f := f1605) (s0 := s1583) (by kernel_rfl) (by kernel_rfl) cc1958k (by kernel_rfl) (by kernel_rfl) t1956 (fun K PN => by kernel_rfl)
def m1959 : PM AVal := (nd (vi 0) (nd (vp 2 0 0) (nn (lf (vi 6)) .nil) (lf (vp 18287 0 0))) (nd (vi 0) (lf (vp 2 0 0)) (lf (vp 18287 0 1))))
def f1960 : Fr := ⟨(nd (vp 2 0 0) m1599 m1959), [], none⟩
theorem o1961 : PX (evO badP allP Ot A 1000000 198) [⟨some 16, .e (.callf 79 [(.t 15)]), none, 0⟩] f1601 s1583 f1960 s1914 := PX.callO (by kernel_rfl) (by kernel_rfl) cc1958 (by kernel_rfl)
def r1962 : List AOper := [V 2 16]
def m1963 : PM AVal := (nd (vi 6) (nd (vp 2 0 0) (nn (lf (vi 6)) .nil) (lf (vp 18287 0 0))) (nd (vi 0) (lf (vp 2 0 0)) (lf (vp 18287 0 1))))
def f1964 : Fr := ⟨(nd (vp 2 0 0) m1599 m1963), [], none⟩
theorem o1965 : PX (evO badP allP Ot A 1000000 198) r1962 f1960 s1914 f1964 s1914 := fun r K => by kernel_rfl
def r1966 : List AOper := r1962 ++ []
theorem o1967 : PO (evO badP allP Ot A 1000000 198) r1966 f1960 s1914 .normal f1964 s1914 := PO.app o1965 PO.nil
def r1968 : List AOper := r1603 ++ r1966
theorem o1969 : PO (evO badP allP Ot A 1000000 198) r1968 f1601 s1583 .normal f1964 s1914 := PO.app o1961 o1967
def r1970 : List AOper := r1598 ++ r1968
theorem o1971 : PO (evO badP allP Ot A 1000000 198) r1970 f1597 s1583 .normal f1964 s1914 := PO.app o1602 o1969
def k1972 : ACode := .region r1970
theorem t1973 : PC (evO badP allP Ot A 1000000 198) 1000000 k1972 f1597 s1583 .normal f1964 s1914 := PC.region o1971
theorem t1974 : PC (evO badP allP Ot A 1000000 198) 1000000 k670 f1964 s1914 .ret f1964 s1914 := fun K => by kernel_rfl
def k1975 : ACode := .seq k1972 k670
theorem t1976 : PC (evO badP allP Ot A 1000000 198) 1000000 k1975 f1597 s1583 .ret f1964 s1914 := PC.seq t1973 t1974
def k1977 : ACode := .seq k1594 k1975
theorem t1978 : PC (evO badP allP Ot A 1000000 198) 1000000 k1977 f1593 s1583 .ret f1964 s1914 := PC.seq t1595 t1976
def k1979 : ACode := .seq k1590 k1977
theorem t1980 : PC (evO badP allP Ot A 1000000 198) 1000000 k1979 f1592 s1583 .ret f1964 s1914 := PC.seq t1591 t1978
def g1981 : List Vl := [(.one (.s (.ptr 2 0 0)))]
theorem cc1982k : a32.code = k1979 := by kernel_rfl
theorem cc1982 : PKO Ot A 1000000 199 32 g1981 s1583 (vi 6) s1914 := PKO.mk (af := a32) (K := k1979) (f := f1592) (s0 := s1583) (by kernel_rfl) (by kernel_rfl) cc1982k (by kernel_rfl) (by kernel_rfl) t1980 (fun K PN => by kernel_rfl)
def m1983 : PM AVal := (nd (.v (.one (.s (.d (.sl [] false))))) (nd (vi 1) (lf (vp 2 0 0)) .nil) (nd (.v (.one (.s (.sl 17263 0 0 1 false)))) (lf (vi 6)) .nil))
def m1984 : PM AVal := (nd (vi 1) (nd (.v (.one (.s (.sl 17263 0 0 1 false)))) m1983 (nd (vi 0) (nd (.v (.one (.s (.sl 864 0 0 1 true)))) (lf y1131) .nil) (lf (.v (.one (.s (.d h99))))))) m1563)
def m1985 : PM AVal := (nd (vb false) (nd (vp 2 0 0) (nd (.v (.one (.s (.d .nilp)))) m1585 m1561) (nd (.v (.one (.s (.d .nilp)))) m1079 m1578)) (nd (vi 0) m1984 (nd (vi 1) m1564 m1579)))
def f1986 : Fr := ⟨m1985, [], none⟩
theorem o1987 : PX (evO badP allP Ot A 1000000 199) [⟨some 80, .e (.callf 32 [(.t 79)]), none, 0⟩] f1587 s1583 f1986 s1914 := PX.callO (by kernel_rfl) (by kernel_rfl) cc1982 (by kernel_rfl)
def r1988 : List AOper := [V 20 80]
def m1989 : PM AVal := (nd (.v (.one (.s (.d (.sl [] true))))) (nd (vi 6) (nd (vp 2 0 0) (lf (.v u921)) .nil) (lf (vi 6))) (nd (vi 1) (nd (.v (.one (.s (.d h99)))) (lf (vi 0)) .nil) (lf (.v u921))))
def m1990 : PM AVal := (nd (vi 1) (nd (.v (.one (.s (.sl 17263 0 0 1 false)))) m1983 (nd (vi 0) (nd (.v (.one (.s (.sl 864 0 0 1 true)))) (lf y1131) .nil) (lf (.v (.one (.s (.d h99))))))) m1989)
def m1991 : PM AVal := (nd (vb false) (nd (vp 2 0 0) (nd (.v (.one (.s (.d .nilp)))) m1585 m1561) (nd (.v (.one (.s (.d .nilp)))) m1079 m1578)) (nd (vi 0) m1990 (nd (vi 1) m1564 m1579)))
def f1992 : Fr := ⟨m1991, [], none⟩
theorem o1993 : PX (evO badP allP Ot A 1000000 199) r1988 f1986 s1914 f1992 s1914 := fun r K => by kernel_rfl
def r1994 : List AOper := r1988 ++ []
theorem o1995 : PO (evO badP allP Ot A 1000000 199) r1994 f1986 s1914 .normal f1992 s1914 := PO.app o1993 PO.nil
def r1996 : List AOper := r1589 ++ r1994
theorem o1997 : PO (evO badP allP Ot A 1000000 199) r1996 f1587 s1583 .normal f1992 s1914 := PO.app o1987 o1995
def r1998 : List AOper := r1584 ++ r1996
theorem o1999 : PO (evO badP allP Ot A 1000000 199) r1998 f1581 s1583 .normal f1992 s1914 := PO.app o1588 o1997
def k2000 : ACode := .region r1998
theorem t2001 : PC (evO badP allP Ot A 1000000 199) 1000000 k2000 f1581 s1583 .normal f1992 s1914 := PC.region o1999
def k2002 : ACode := .seq (
.region [V 81 4,
Q 82 (.bin .eql .scalar (.t 81) (ci 1)),
V 83 82,
G 84 (.mov (.t 6)) 83 true,
G 85 (.bin .eql .scalar (.t 84) (ci 1)) 83 true,
Q 86 (.pick (.t 83) (.t 85) (cb false)),
V 87 86,
G 88 (.mov (.t 8)) 87 true,
G 89 (.len .sl (.t 88)) 87 true,
G 90 (.bin .eql .scalar (.t 89) (ci 1)) 87 true,
Q 91 (.pick (.t 87) (.t 90) (cb false)),
V 92 91,
G 93 (.mov (.t 8)) 92 true,
G 94 (.iaddr 2 none (.t 93) (ci 0)) 92 true,
G 95 (.load true 2 (.t 94)) 92 true,
G 96 (.build zl7 [(0, 1, (ci 1))]) 92 true,
G 97 (.bin .eql (.agg [.int, .int]) (.t 95) (.t 96)) 92 true,
Q 98 (.pick (.t 92) (.t 97) (cb false)),
V 99 98,
G 100 (.mov (.t 9)) 99 true,
G 101 (.bin .eql .scalar (.t 100) (ci 5)) 99 true,
Q 102 (.pick (.t 99) (.t 101) (cb false)),
V 103 102,
G 104 (.mov (.t 10)) 103 true,
G 105 (.bin .eql .scalar (.t 104) (ci 6)) 103 true,
Q 106 (.pick (.t 103) (.t 105) (cb false)),
V 107 106,
G 108 (.mov (.t 11)) 107 true,
G 109 (.bin .eql .scalar (.t 108) (ci 0)) 107 true,
Q 110 (.pick (.t 107) (.t 109) (cb false)),
V 111 110,
G 112 (.mov (.t 12)) 111 true,
G 113 (.len .sl (.t 112)) 111 true,
G 114 (.bin .eql .scalar (.t 113) (ci 0)) 111 true,
Q 115 (.pick (.t 111) (.t 114) (cb false)),
V 116 115,
G 117 (.mov (.t 14)) 116 true,
G 118 (.bin .eql .scalar (.t 117) (ci 6)) 116 true,
Q 119 (.pick (.t 116) (.t 118) (cb false)),
V 120 119,
G 121 (.mov (.t 15)) 120 true,
G 122 (.bin .eql .scalar (.t 121) (ci 0)) 120 true,
Q 123 (.pick (.t 120) (.t 122) (cb false)),
V 124 123,
G 125 (.mov (.t 17)) 124 true,
G 126 (.bin .eql .scalar (.t 125) (ci 0)) 124 true,
Q 127 (.pick (.t 124) (.t 126) (cb false)),
V 128 127,
G 129 (.mov (.t 18)) 128 true,
G 130 (.bin .eql .scalar (.t 129) (ci 0)) 128 true,
Q 131 (.pick (.t 128) (.t 130) (cb false)),
V 132 131,
G 133 (.mov (.t 19)) 132 true,
G 134 (.bin .eql .scalar (.t 133) (ci 0)) 132 true,
Q 135 (.pick (.t 132) (.t 134) (cb false)),
V 136 135,
G 137 (.mov (.t 20)) 136 true,
G 138 (.bin .eql .scalar (.t 137) (ci 6)) 136 true,
Q 139 (.pick (.t 136) (.t 138) (cb false)),
V 140 139,
G 141 (.mov (.t 1)) 140 true,
⟨some 142, .e (.callf 35 [(.t 141)]), some (140, true), 0⟩,
Q 143 (.pick (.t 140) (.t 142) (cb false)),
V 144 143,
G 145 (.mov (.t 1)) 144 true,
⟨some 146, .e (.callf 36 [(.t 145)]), some (144, true), 0⟩,
G 147 (.bin .eql .scalar (.t 146) (ci 1)) 144 true,
Q 148 (.pick (.t 144) (.t 147) (cb false)),
V 149 148,
G 150 (.mov (.t 1)) 149 true,
⟨some 151, .e (.callf 37 [(.t 150)]), some (149, true), 0⟩,
G 152 (.bin .eql .scalar (.t 151) (ci 5)) 149 true,
Q 153 (.pick (.t 149) (.t 152) (cb false)),
V 154 153,
G 155 (.mov (.t 1)) 154 true,
⟨some 156, .e (.callf 38 [(.t 155)]), some (154, true), 0⟩,
G 157 (.bin .eql .scalar (.t 156) (ci 5)) 154 true,
Q 158 (.pick (.t 154) (.t 157) (cb false)),
V 159 158,
G 160 (.mov (.t 1)) 159 true,
⟨some 161, .e (.callf 39 [(.t 160)]), some (159, true), 0⟩,
G 162 (.bin .eql .scalar (.t 161) (ci 0)) 159 true,
Q 163 (.pick (.t 159) (.t 162) (cb false)),
V 164 163,
G 165 (.mov (.t 1)) 164 true,
⟨some 166, .e (.callf 40 [(.t 165)]), some (164, true), 0⟩,
G 167 (.bin .eql .scalar (.t 166) (ci 0)) 164 true,
Q 168 (.pick (.t 164) (.t 167) (cb false)),
V 0 168]) (
.ret)
def m2004 : PM AVal := (nd (vi 0) (nd (.v (.one (.s (.d .nilp)))) (nd (vi 6) (lf (vb true)) .nil) (nd (.v u719) (lf (vb true)) .nil)) (nd (.v (.one (.s (.d h112)))) (nd (vp 2 0 0) (lf (vb true)) .nil) (lf (vb true))))
def m2005 : PM AVal := (nd (vp 2 0 0) (nd (.v u101) (nd (vi 0) (lf (vb true)) .nil) (nd (vb true) (lf (vb true)) .nil)) (nd (vp 2 0 0) (nd (vb true) (lf (vi 5)) .nil) (lf (vb true))))
def m2006 : PM AVal := (nd (vi 0) (nd (vb false) (nd (vp 2 0 0) (lf (vb true)) .nil) (nd (vb true) (lf (vb true)) .nil)) (nd (vp 2 0 0) (nd (vb true) (lf (vb true)) .nil) (lf (vb true))))
def m2007 : PM AVal := (nd (.v (.one (.s (.d .nilp)))) (nd (vp 2 0 0) (nd (vi 0) (lf (vb true)) .nil) (lf (vb true))) (nd (vp 2 0 0) (nd (vb true) (lf (vp 2 0 0)) .nil) (lf (vb true))))
def m2008 : PM AVal := (nd (vi 0) (nd (vi 0) (lf (vi 0)) .nil) (nd (vb true) (lf (vi 0)) .nil))
def m2009 : PM AVal := (nd y74 (nd (.v u103) (nd (vp 2 0 0) (lf (vi 6)) .nil) (lf (vb true))) (nd (.v (.one (.s (.d (.sl [] true))))) (nd (vi 1) (lf (vb true)) .nil) (lf (vi 0))))
def m2010 : PM AVal := (nd (vi 5) (nd (vi 0) m2008 (nd (vp 2 0 0) (nd (vi 1) (lf (vp 2 0 0)) .nil) (lf (vi 0)))) m2009)
def m2011 : PM AVal := (nd y8 (nd (vb false) (nd y1050 (lf (vi 0)) .nil) (nd (vb true) (lf (vp 2 0 0)) .nil)) (nd (vp 2 0 0) (nd (vb true) (lf (vb true)) .nil) (lf (vi 6))))
def m2012 : PM AVal := (nd y74 (nd (.v (.one (.s (.d h99)))) (nd (vp 2 0 0) (lf (vp 2 0 0)) .nil) (lf (vb true))) (nd y919 (nd (.v (.one (.s (.sl 17263 0 0 1 false)))) (lf (vb true)) .nil) (lf (vi 0))))
def m2013 : PM AVal := (nd (vp 2 0 0) (nd (.v (.one (.s (.d .nilp)))) (nd (.v (.one (.s (.d h99)))) m2004 m2005) (nd (vi 0) m2006 m2007)) (nd (.v (.one (.s (.d .nilp)))) m2010 (nd (.v (.one (.s (.d (.sl [] true))))) m2011 m2012)))
def m2014 : PM AVal := (nd (.v (.one (.s (.d (.sl [] false))))) (nd (vi 1) (nd (vp 2 0 0) (lf (vb true)) .nil) (nd (.v u719) (lf (vp 2 0 0)) .nil)) (nd (.v (.one (.s (.sl 17263 0 0 1 false)))) (nd (vi 6) (lf (vb true)) .nil) (lf (.v (.one (.s (.d (.sl [] true))))))))
def m2015 : PM AVal := (nd (vi 0) (nd (.v (.one (.s (.sl 864 0 0 1 true)))) (nd y1131 (lf (vb true)) .nil) (nd (vi 6) (lf (vb true)) .nil)) (nd (.v (.one (.s (.d h99)))) (nd (.v (.one (.s (.sl 17263 0 0 1 false)))) (lf (vb true)) .nil) (lf (vb true))))
def m2016 : PM AVal := (nd (vi 6) (nd (vp 2 0 0) (nd (.v u921) (lf (vb true)) .nil) (nd (vi 5) (lf (vb true)) .nil)) (nd (vi 6) (nd (vi 1) (lf (vb true)) .nil) (lf (vb true))))
def m2017 : PM AVal := (nd (vi 1) (nd (.v (.one (.s (.d h99)))) (nd (vi 0) (lf (vb true)) .nil) (lf (vi 0))) (nd (.v u921) (nd (vb true) (lf (vi 5)) .nil) (lf (vb true))))
def m2018 : PM AVal := (nd (vi 0) (nd (vb false) (nd y1050 (lf (vb true)) .nil) (nd (vb true) (lf (vb true)) .nil)) (nd (vi 5) (nd (vb true) (lf (vi 1)) .nil) (lf (vb true))))
def m2019 : PM AVal := (nd y74 (nd (.v (.one (.s (.d h99)))) (nd y1131 (lf (vb true)) .nil) (lf (vb true))) (nd y919 (nd (vb true) (lf (vb true)) .nil) (lf (vb true))))
def m2020 : PM AVal := (nd y8 (nd (vb false) (nd (.v (.one (.s (.d (.sl [] false))))) (lf (vb true)) .nil) (nd (vb true) (lf (vi 0)) .nil)) (nd (vi 0) (nd (vb true) (lf (vp 2 0 0)) .nil) (lf (vb true))))
def m2021 : PM AVal := (nd y74 (nd (vs [0, 0, 0, 21, 1]) (nd (.tup []) (lf (vb true)) .nil) (lf (vb true))) (nd (.v (.one (.s (.d (.sl [] true))))) (nd (vp 17263 0 0) (lf (vb true)) .nil) (lf (vb true))))
def m2022 : PM AVal := (nd (vi 0) (nd (vi 1) (nd (.v (.one (.s (.sl 17263 0 0 1 false)))) m2014 m2015) (nd (.v (.one (.s (.d (.sl [] true))))) m2016 m2017)) (nd (vi 1) (nd (vi 6) m2018 m2019) (nd (vi 6) m2020 m2021)))
def f2023 : Fr := ⟨(nd (vb true) m2013 m2022), [], none⟩
def x2024 : AObj := (.row 96 4 0 [(xi 1), (xi 5), (xi 5), (.s (.mp 45520))])
def m2025 : PM AObj := (nn (nn (nn .nil (nn (nn .nil (nn .nil (nn .nil (lf x1262)))) .nil)) (nd x83 .nil (nn (nn (nn (nn (lf x261) .nil) .nil) .nil) .nil))) (nn .nil (nn (nn (nn (nn .nil (nn .nil (nn (lf x2024) .nil))) .nil) .nil) .nil)))
def m2026 : PM AObj := (nn (nn (nn m1059 (nn (nn .nil (nn (nn (nn (nn (nn (lf x24) .nil) (nn .nil (nn (lf x45) .nil))) .nil) .nil) .nil)) .nil)) m1733) (nn (nn (nn (nn .nil (lf x24)) (nd x25 .nil m1893)) m2025) (nn m1391 (nd x26 (nn .nil m1616) (nn (lf x27) .nil)))))
def x2027 : AObj := (.row 92 2 0 [(.s (.sl 45541 0 0 1 false)), (.s (.mp 45542))])
def m2028 : PM AObj := (nd x26 (nn (nn .nil (nn .nil (nn (nn (nn (lf x950) .nil) .nil) .nil))) .nil) (nn .nil (nn (nn (nn (nn .nil (nn .nil (nn (lf x2027) .nil))) .nil) .nil) .nil)))
def m2029 : PM AObj := (nn (nn (nn .nil (nd x30 .nil (nn .nil (nn (nn .nil (nn (nn (lf x318) .nil) .nil)) .nil)))) (nn .nil (nn .nil (nn .nil (nn (nn (lf x266) .nil) .nil))))) m2028)
def m2030 : PM AObj := (nn (nn (nn m1398 (nn (nn (nn .nil (nn (nn (nn (lf x27) .nil) .nil) .nil)) .nil) .nil)) m1400) (nn m1737 (nn m1669 (nn m1738 (nn (nn (nn (nn .nil (nn .nil (nn (lf x30) .nil))) .nil) .nil) (nn (nn .nil (nn .nil (nn .nil (lf x1403)))) .nil))))))
def m2031 : PM AObj := (nn (nn (nn m1393 (nn (nn (nn (nn (nn .nil (nn (lf x276) .nil)) .nil) .nil) (nn (nn .nil (nn .nil (nn .nil (nn .nil (lf x1394))))) .nil)) .nil)) m1619) m2030)
def m2032 : PM AObj := (nd x35 m1060 (nn m1407 (nn m1408 (nn .nil (nn (nn (nn (nn .nil (nn .nil (nn (lf x1142) .nil))) .nil) .nil) (nn (nn (nn (nn (lf x963) .nil) .nil) .nil) .nil))))))
def m2033 : PM AObj := (nn (nn (nd x24 .nil (nn .nil (nn (nn (nn (lf x950) .nil) .nil) .nil))) (nn (nn (nn (nn (nn (lf x285) .nil) .nil) .nil) .nil) .nil)) (nn .nil (nn (nn (nn (nn .nil (nn .nil (nn (lf x1615) .nil))) .nil) .nil) .nil)))
def m2034 : PM AObj := (nn m2031 (nn m2032 (nn (nn (nn .nil (nn .nil (nd x284 .nil (nn (nn (nn (nn (lf x33) .nil) .nil) .nil) (nn (nn (nn (lf x1162) .nil) .nil) .nil))))) m2033) m1272)))
def m2035 : PM AObj := (nn (nn (lf x24) (nd x85 (nn (nn (nn (nn .nil (lf x276)) .nil) .nil) .nil) .nil)) (nd x34 (nn (nn .nil (nn .nil (nn .nil (nn .nil (lf x24))))) .nil) (nn (nn (nn (nn .nil (nn .nil (nn (lf x1142) .nil))) .nil) .nil) .nil)))
def m2036 : PM AObj := (nn (nn .nil (nn (nd x40 (nn .nil (nn .nil (nn .nil (nn .nil (lf x24))))) .nil) (nn .nil (nn .nil (nn .nil (nn (nn .nil (nn (lf x1290) .nil)) .nil)))))) m2035)
def x2037 : AObj := (.row 96 4 0 [(xi 1), (xi 5), (xi 5), (.s (.mp 45546))])
def m2038 : PM AObj := (nn (nn (nn .nil (nn (nn .nil (nn .nil (nn .nil (lf x1275)))) .nil)) (nn .nil (nn (nn (nn (nn (lf x33) .nil) .nil) .nil) .nil))) (nn .nil (nn (nn (nn (nn .nil (nn .nil (nn (lf x2037) .nil))) .nil) .nil) .nil)))
def m2039 : PM AObj := (nn (nn m1274 (nn m1417 (nd x42 (lf x43) (nn (nn (nn (nn .nil (nn .nil (nn (lf x350) .nil))) .nil) .nil) .nil)))) (nn (nn m1743 (nd x45 .nil (nn (nn (nn (nn .nil (nn .nil (nn (lf x1898) .nil))) .nil) .nil) .nil))) m2038))
def m2040 : PM AObj := (nn (nn .nil (nn (nn (nn (nn .nil (nn .nil (nn (lf x24) .nil))) .nil) .nil) .nil)) (nn .nil (nn (nn (nn (nn .nil (nn .nil (nn (lf x30) .nil))) .nil) .nil) (nn (nn .nil (nn .nil (nn .nil (lf x1423)))) .nil))))
def m2041 : PM AObj := (nn (nn (nn (nn (lf x34) .nil) (nn .nil (nn .nil (nn (nn (nn (nn (lf x973) .nil) .nil) .nil) (nn (nn (nn (lf x1137) .nil) .nil) .nil))))) m2040) (nn m1746 (nn .nil (nn .nil (nn (nn .nil (nn (nn (nn (lf x305) .nil) .nil) .nil)) .nil)))))
def m2042 : PM AObj := (nn (nn .nil (nn (nn (nn (nn (nn .nil (lf x1196)) .nil) .nil) (nn .nil (nn .nil (nn .nil (lf x1142))))) .nil)) (nn .nil (nn (nn (nn (nn .nil (nn .nil (nn (lf x1024) .nil))) .nil) .nil) .nil)))
def m2043 : PM AObj := (nn (nn (nn (nn (nn (nn (nn (nn .nil (nn .nil (nn (lf x1262) .nil))) .nil) (nn (nn (nn (lf x981) .nil) .nil) .nil)) .nil) .nil) .nil) (nn m1748 .nil)) (nn m1676 m2042))
def m2044 : PM AObj := (nn m1677 (nn (nn (nn (nn (nn .nil (nn (lf x276) .nil)) .nil) .nil) .nil) (nn .nil (nn (nn (nn (nn .nil (nn .nil (nn (lf x1615) .nil))) .nil) .nil) .nil))))
def x2045 : AObj := (.map .str [⟨[(.str [116])], 0, (.one (.s (.ptr 45543 0 0)))⟩] 1)
def m2046 : PM AObj := (nn (nn (nn (nn (nn .nil (nn (lf x307) .nil)) .nil) .nil) .nil) (nn (nn .nil (nn (nn (nn (nn (lf x308) .nil) .nil) .nil) .nil)) (nn (nn (nn (nn .nil (nn .nil (nn (lf x2045) .nil))) .nil) .nil) .nil)))
def m2047 : PM AObj := (nn (nn m2043 (nn (nn m1113 (nn (nn (lf x49) (nn .nil (nn .nil (nn (nn .nil (nn (nn (lf x24) .nil) .nil)) .nil)))) .nil)) m2044)) (nn (nd x33 m1115 m1624) (nn (nn (nn .nil (nn .nil (nn .nil (nn .nil (nn (nn (nn (lf x1198) .nil) .nil) .nil))))) m2046) m1751)))
def x2048 : AObj := (.map .str [⟨[(.str [116])], 0, (.one (.s (.ptr 45530 0 0)))⟩] 1)
def m2049 : PM AObj := (nn (nn .nil (nd x87 (nn (nn (nn (nn .nil (lf x24)) .nil) .nil) .nil) .nil)) (nn .nil (nn (nn (nn (nn .nil (nn .nil (nn (lf x2048) .nil))) .nil) .nil) .nil)))
def m2050 : PM AObj := (nn (nn (nn (nn .nil (nn (nn (nn (nn .nil (nn (lf x274) .nil)) .nil) .nil) m1904)) (nn m1682 .nil)) m1754) (nn (nn (nn .nil (nn .nil (nn .nil (nn .nil (nn .nil (nn (nn .nil (nn (lf x1755) .nil)) .nil)))))) m2049) m1649))
def m2051 : PM AObj := (nn (nn (nn (nn .nil (nn (nn (nn (lf x943) .nil) .nil) .nil)) (nn (nn .nil (nn .nil (nn .nil (lf x24)))) .nil)) .nil) (nn (nn (nn .nil (nn .nil (nn .nil (nn .nil (lf x24))))) .nil) (nn (nn (nn (nn .nil (nn .nil (nn (lf x1615) .nil))) .nil) .nil) .nil)))
def m2052 : PM AObj := (nd x24 (nd x24 (nn (nd x34 .nil (nn .nil (nn (nn (nn (lf x64) .nil) .nil) .nil))) .nil) m1285) (nn .nil (nn (nn (nn .nil (nn .nil (nn .nil (nn .nil (lf x24))))) .nil) (nn (nn (nn (nn .nil (nn .nil (nn (lf x1024) .nil))) .nil) .nil) .nil))))
def m2053 : PM AObj := (nn m2050 (nn (nn (nn m1436 (nn (nn (nn (nn .nil (nn (nn (nn (lf x1001) .nil) .nil) .nil)) .nil) .nil) (nn (lf x43) .nil))) (nn m1905 m2051)) (nd x56 m2052 m1440)))
def x2054 : AObj := (.row 92 2 0 [(.s (.sl 45554 0 0 1 false)), (.s (.mp 45555))])
def m2055 : PM AObj := (nd x24 (nn (nn (nn (nn .nil (nn (lf x274) .nil)) .nil) .nil) (lf x220)) (nn .nil (nn (nn (nn (nn .nil (nn .nil (nn (lf x2054) .nil))) .nil) .nil) .nil)))
def x2056 : AObj := (.row 96 4 0 [(xi 1), (xi 5), (xi 5), (.s (.mp 45533))])
def m2057 : PM AObj := (nn m1167 (nn .nil (nn (nn .nil (nn (nn (nn (nn (lf x24) .nil) .nil) .nil) .nil)) (nn (nn (nn (nn .nil (nn .nil (nn (lf x2056) .nil))) .nil) .nil) .nil))))
def m2058 : PM AObj := (nn (nd x29 (nn m1685 m1444) (nn m1445 (nd x24 (nn .nil m1628) (nn .nil (nn .nil (nn (nn (nn (nn (lf x1008) .nil) .nil) .nil) .nil)))))) (nn m2057 (nd x38 m1447 m1015)))
def m2059 : PM AObj := (nn (nn (nn (nn (nn .nil (nn .nil (nn (lf x1275) .nil))) .nil) (nn .nil (nn .nil (nn .nil (lf x1401))))) .nil) (nn (nn (nn (nn .nil (nn .nil (nn (lf x1024) .nil))) .nil) .nil) (nn (nn .nil (nn .nil (nn .nil (lf x1403)))) .nil)))
def m2060 : PM AObj := (nn (nn (nn (nn .nil (nn (nn .nil (nn (nn (nn (lf x1020) .nil) .nil) .nil)) .nil)) .nil) m1453) (nn m1021 (nn (nn (nn (nn (nn .nil (nn (lf x24) .nil)) .nil) .nil) (nn (nn .nil (nn .nil (nn .nil (nn .nil (lf x1198))))) .nil)) m2059)))
def x2061 : AObj := (.map .str [⟨[(.str [116])], 0, (.one (.s (.ptr 45556 0 0)))⟩] 1)
def x2062 : AObj := (.row 92 2 0 [(.s (.sl 45528 0 0 1 false)), (.s (.mp 45529))])
def m2063 : PM AObj := (nn (nn .nil (nn (nn (nn (nn (nn (lf x307) .nil) (nn .nil (nn (lf x959) .nil))) .nil) .nil) .nil)) (nn .nil (nn (nn (nn (nn .nil (nn .nil (nn (lf x2062) .nil))) .nil) .nil) .nil)))
def m2064 : PM AObj := (nn (nn m1452 m2060) (nn (nd x54 m1248 (nn .nil (nn m1295 (nn .nil (nn (nn (nn (nn .nil (nn .nil (nn (lf x2061) .nil))) .nil) .nil) .nil))))) (nn (nn (nn .nil m1143) m2063) m1761)))
def m2065 : PM AObj := (nn (nn m1691 (nn (nn (nn .nil (nn (nn (nn (lf x987) .nil) .nil) .nil)) .nil) (nn .nil (nn .nil (nn (nn (lf x345) .nil) .nil))))) (nn .nil (nn .nil (nn (nn (nn (nn .nil (nn .nil (nn (lf x30) .nil))) .nil) .nil) .nil))))
def m2066 : PM AObj := (nn (nn (nn (nn (nn .nil (nn (lf x351) .nil)) .nil) .nil) (nn (nn .nil (nn .nil (nn .nil (nn .nil (lf x33))))) .nil)) (nn (nn .nil (nn (nn (nn (nn (lf x308) .nil) .nil) .nil) .nil)) (nn (nn (nn (nn .nil (nn .nil (nn (lf x1142) .nil))) .nil) .nil) .nil)))
def m2067 : PM AObj := (nn (nn (nn m1764 (nn .nil (nn .nil (nn (nn (nn (lf x1037) .nil) .nil) .nil)))) (nn (nn (nn (nn .nil (nn (nn (lf x1219) .nil) .nil)) .nil) .nil) .nil)) m2066)
def m2068 : PM AObj := (nn (nn (nn m1124 (nn m1763 (nn (lf x24) .nil))) m1634) (nn m2067 (nn (nn .nil (nn (nd x24 (nn .nil (nn (nn (nn (lf x1911) .nil) .nil) .nil)) .nil) .nil)) (nd x353 (nn .nil (lf x354)) m1040))))
def m2069 : PM AObj := (nn m2064 (nn (nn (nn (nd x35 (nd x59 (nn (nn (nn .nil (nn (nn (nn (lf x64) .nil) .nil) .nil)) .nil) .nil) (nn .nil (lf x343))) .nil) m2065) m1910) m2068))
def m2070 : PM AObj := (nd x1386 (nd x1582 (nn (nn m2026 (nn (nn m949 m2029) m1667)) m2034) (nn (nn (nd x288 (nn m1674 m1900) (nn m2036 m1645)) (nn m2039 m2041)) m2047)) (nd x995 (nn m2053 (nn (nn (nn m1442 m1627) (nn m1011 (nn (nn (nn .nil (nn .nil (nn (nn (nn (nn (lf x27) .nil) .nil) .nil) .nil))) .nil) m2055))) m2058)) m2069))
def s2071 : St := ⟨m2070, 45558, 0⟩
theorem t2003 : PC (evO badP allP Ot A 1000000 199) 1000000 k2002 f1992 s1914 .ret f2023 s2071 := fun K => by kernel_rfl
def k2072 : ACode := .seq k2000 k2002
theorem t2073 : PC (evO badP allP Ot A 1000000 199) 1000000 k2072 f1581 s1583 .ret f2023 s2071 := PC.seq t2001 t2003
def k2074 : ACode := .seq k1576 k2072
theorem t2075 : PC (evO badP allP Ot A 1000000 199) 1000000 k2074 f1566 s1464 .ret f2023 s2071 := PC.seq t1577 t2073
def k2076 : ACode := .seq k1574 k2074
theorem t2077 : PC (evO badP allP Ot A 1000000 199) 1000000 k2076 f1057 s1077 .ret f2023 s2071 := PC.seq t1575 t2075
def k2078 : ACode := .seq k1045 k2076
theorem t2079 : PC (evO badP allP Ot A 1000000 199) 1000000 k2078 f938 s1044 .ret f2023 s2071 := PC.seq t1046 t2077
def k2080 : ACode := .seq k931 k2078
theorem t2081 : PC (evO badP allP Ot A 1000000 199) 1000000 k2080 f926 s930 .ret f2023 s2071 := PC.seq t932 t2079
def k2082 : ACode := .seq k915 k2080
theorem t2083 : PC (evO badP allP Ot A 1000000 199) 1000000 k2082 f914 s906 .ret f2023 s2071 := PC.seq t916 t2081
def k2084 : ACode := .seq k907 k2082
theorem t2085 : PC (evO badP allP Ot A 1000000 199) 1000000 k2084 f904 s906 .ret f2023 s2071 := PC.seq t908 t2083
def k2086 : ACode := .seq k899 k2084
theorem t2087 : PC (evO badP allP Ot A 1000000 199) 1000000 k2086 f898 s822 .ret f2023 s2071 := PC.seq t900 t2085
def k2088 : ACode := .seq k893 k2086
theorem t2089 : PC (evO badP allP Ot A 1000000 199) 1000000 k2088 f892 s822 .ret f2023 s2071 := PC.seq t894 t2087
def k2090 : ACode := .seq k887 k2088
theorem t2091 : PC (evO badP allP Ot A 1000000 199) 1000000 k2090 f877 s822 .ret f2023 s2071 := PC.seq t888 t2089
def k2092 : ACode := .seq k885 k2090
theorem t2093 : PC (evO badP allP Ot A 1000000 199) 1000000 k2092 f107 s110 .ret f2023 s2071 := PC.seq t886 t2091
def k2094 : ACode := .seq k97 k2092
theorem t2095 : PC (evO badP allP Ot A 1000000 199) 1000000 k2094 f96 s89 .ret f2023 s2071 := PC.seq t98 t2093
def k2096 : ACode := .seq k90 k2094
theorem t2097 : PC (evO badP allP Ot A 1000000 199) 1000000 k2096 f82 s89 .ret f2023 s2071 := PC.seq t91 t2095
def k2098 : ACode := .seq k78 k2096
theorem t2099 : PC (evO badP allP Ot A 1000000 199) 1000000 k2098 f77 s71 .ret f2023 s2071 := PC.seq t79 t2097
def k2100 : ACode := .seq k72 k2098
theorem t2101 : PC (evO badP allP Ot A 1000000 199) 1000000 k2100 f10 s71 .ret f2023 s2071 := PC.seq t73 t2099
def k2102 : ACode := .seq k6 k2100
theorem t2103 : PC (evO badP allP Ot A 1000000 199) 1000000 k2102 f5 s4 .ret f2023 s2071 := PC.seq t7 t2101
def k2104 : ACode := .seq k1 k2102
theorem t2105 : PC (evO badP allP Ot A 1000000 199) 1000000 k2104 f3 s4 .ret f2023 s2071 := PC.seq t2 t2103
def g2106 : List Vl := []
theorem cc2107k : a41.code = k2104 := by kernel_rfl
theorem cc2107 : PKO Ot A 1000000 200 41 g2106 s4 (vb true) s4 := PKO.mk (af := a41) (K := k2104) (f := f3) (s0 := s4) (by kernel_rfl) (by kernel_rfl) cc2107k (by kernel_rfl) (by kernel_rfl) t2105 (fun K PN => by kernel_rfl)
theorem run_known : PKO Ot A 1000000 200 41 [] St.zero (dv (.bool true)) St.zero := cc2107
end Go.Proofs.YtcdebohjjkffkaaGreat.tr
