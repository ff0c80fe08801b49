/- A closed run, printed by program: piece by piece. -/
import Derived.Test.YtcdebohjjkffkaaGreatSn2
namespace Go.Proofs.YtcdebohjjkffkaaGreat.ts
open Go Go.Rf
set_option maxRecDepth 1000000
def k947 : ACode := .block 1 (
.seq (
.region [Q 22 (.mov (.t 0)),
Q 23 (.nilck (.t 22)),
Q 24 (.faddr 1 (.t 23)),
Q 25 (.load false 1 (.t 24)),
E 26 (.callf 69 [(.t 25)]),
Q 21 (.mov (.t 26)),
Q 27 (.extract 0 (.t 21)),
Q 28 (.extract 1 (.t 21)),
Q 29 (.extract 2 (.t 21)),
Q 6 (.mov (.t 27)),
Q 7 (.mov (.t 28)),
Q 8 (.mov (.t 29))]) (
.seq (
.region [Q 30 (.mov (.t 8)),
Q 31 (.build [dc (.int .i64 0), dc (.int .i64 0)] [(1, 1, (.t 30))]),
M 9 (.alloc 137 2 [dc (.int .i64 0), dc (.int .i64 0)]),
⟨none, .e (.store 2 (.t 9) (.t 31)), none, 0⟩]) (
.seq (
.seq (
.region [Q 32 (.mov (.t 8))]) (
.block 2 (
.seq (
.region [Q 37 (.bin .eql .scalar (.t 32) (ci 8)),
Q 36 (.mov (.t 37))]) (
.cond (.t 36) (
.exit 0) (
.seq (
.region [Q 39 (.bin .eql .scalar (.t 32) (ci 0)),
Q 38 (.mov (.t 39))]) (
.cond (.t 38) (
.seq (
.region [Q 40 (.mov (.t 0)),
Q 41 (.mov (.t 0)),
Q 42 (.nilck (.t 41)),
Q 43 (.faddr 1 (.t 42)),
Q 44 (.load false 1 (.t 43)),
Q 45 (.mov (.t 7)),
Q 46 (.sslice (.t 44) (some (.t 45)) none),
Q 47 (.nilck (.t 40)),
Q 48 (.faddr 1 (.t 47)),
⟨none, .e (.store 1 (.t 48) (.t 46)), none, 0⟩]) (
.region [Q 49 (.mov (.t 0)),
Q 50 (.mov (.t 6)),
E 51 (.callf 70 [(.t 49), (.t 50)]),
⟨none, .e (.store 2 (.t 9) (.t 51)), none, 0⟩])) (
.region [Q 33 (.mov (.t 0)),
Q 34 (.nilck (.t 33)),
Q 35 (.faddr 1 (.t 34)),
⟨none, .e (.store 1 (.t 35) (cs [])), none, 0⟩]))))))) (
.seq (
.seq (
.region [Q 52 (.faddr 1 (.t 9)),
Q 53 (.load false 1 (.t 52)),
Q 54 (.bin .neq .scalar (.t 53) (ci 0))]) (
.cond (.t 54) (
.region [Q 55 (.mov (.t 0)),
Q 56 (.nilck (.t 55)),
Q 57 (.faddr 5 (.t 56)),
Q 58 (.load false 1 (.t 57)),
Q 59 (.bin .add .scalar (.t 58) (ci 1)),
Q 60 (.nilck (.t 55)),
Q 61 (.faddr 5 (.t 60)),
⟨none, .e (.store 1 (.t 61) (.t 59)), none, 0⟩]) (
.skip))) (
.region [Q 62 (.mov (.t 5)),
Q 63 (.load true 2 (.t 9)),
M 64 (.bslice 137 2 1 [dc (.int .i64 0), dc (.int .i64 0)] [(0, 2, (.t 63))]),
E 65 (.append 137 2 16 (.t 62) (.t 64)),
Q 5 (.mov (.t 65))])))))
def u948 : Vl := (.agg [(.s (.d (.int .i64 (.ofNat 3)))), (.s (.d (.int .i64 (.ofNat 12))))])
def m949 : PM AVal := (.node (some (.v (.one (.s (.d (.int .i64 (.ofNat 11))))))) (.node (some (.v (.one (.s (.ptr 830 0 1))))) (.node (some (.v u150)) (.node (some (.v u948)) .nil .nil) .nil) (.node (some (.v (.one (.s (.ptr 830 0 0))))) .nil .nil)) (.node (some (.v (.one (.s (.ptr 830 0 0))))) (.node (some (.v (.one (.s (.d (.bool true)))))) .nil .nil) (.node (some (.v (.one (.s (.ptr 830 0 0))))) .nil .nil)))
def m950 : PM AVal := (.node (some (.v (.one (.s (.d (.bool true)))))) (.node (some (.v (.one (.s (.ptr 830 0 0))))) .nil (.node (some (.v u948)) .nil .nil)) (.node (some (.v (.one (.s (.d (.str [3, 6, 0])))))) (.node (some (.v (.one (.s (.ptr 830 0 1))))) .nil .nil) (.node (some (.v (.one (.s (.d (.int .i64 (.ofNat 1))))))) .nil .nil)))
def h951 : Dat := (.str [0, 0, 0, 3, 3, 6, 0, 205, 192, 93, 171, 0, 0])
def m952 : PM AVal := (.node (some (.v (.one (.s (.ptr 11094 0 0))))) (.node (some (.v (.one (.s (.d h106))))) (.node none (.node (some (.v (.one (.s (.sl 11070 2 0 3 false))))) .nil .nil) .nil) (.node (some (.v (.one (.s (.ptr 830 0 0))))) .nil .nil)) (.node (some (.v (.one (.s (.d h951))))) (.node (some (.v (.one (.s (.ptr 830 0 0))))) .nil .nil) (.node (some (.v (.one (.s (.ptr 830 0 5))))) .nil .nil)))
def y953 : AVal := (.tup [(.one (.s (.d (.str [3, 6, 0])))), (.one (.s (.d (.int .i64 (.ofNat 11))))), (.one (.s (.d (.int .i64 (.ofNat 0)))))])
def m954 : PM AVal := (.node (some (.v (.one (.s (.ptr 830 0 0))))) (.node (some y953) (.node (some (.v (.one (.s (.d (.bool false)))))) .nil .nil) (.node (some (.v (.one (.s (.d (.int .i64 (.ofNat 12))))))) .nil .nil)) (.node (some (.v (.one (.s (.d (.int .i64 (.ofNat 0))))))) (.node (some (.v (.one (.s (.d (.int .i64 (.ofNat 11))))))) .nil .nil) (.node (some (.v (.one (.s (.ptr 830 0 5))))) .nil .nil)))
def m955 : PM AVal := (.node (some (.v (.one (.s (.d (.int .i64 (.ofNat 0))))))) (.node (some (.v (.one (.s (.d (.str [])))))) (.node (some (.v (.one (.s (.d (.int .i64 (.ofNat 0))))))) (.node (some (.v (.one (.s (.sl 11147 0 0 1 true))))) .nil .nil) .nil) (.node (some (.v (.one (.s (.ptr 830 0 1))))) .nil .nil)) (.node (some (.v (.one (.s (.ptr 830 0 1))))) (.node (some (.v (.one (.s (.ptr 830 0 0))))) .nil .nil) (.node (some (.v (.one (.s (.ptr 830 0 0))))) .nil .nil)))
def m956 : PM AVal := (.node (some (.v (.one (.s (.d (.bool false)))))) (.node (some (.v (.one (.s (.ptr 830 0 1))))) (.node (some (.v (.one (.s (.d (.bool false)))))) .nil .nil) (.node (some (.v (.one (.s (.ptr 11094 0 1))))) .nil .nil)) (.node (some (.v (.one (.s (.d (.int .i64 (.ofNat 11))))))) (.node (some (.v (.one (.s (.d h951))))) .nil .nil) (.node (some (.v (.one (.s (.ptr 830 0 0))))) .nil .nil)))
def m957 : PM AVal := (.node (some (.v (.one (.s (.ptr 830 0 0))))) (.node (some (.v (.one (.s (.d h106))))) .nil (.node (some (.v (.one (.s (.d (.str [3, 6, 0])))))) .nil .nil)) (.node (some y953) (.node (some (.v (.one (.s (.ptr 830 0 0))))) .nil .nil) (.node (some (.v (.one (.s (.d (.int .i64 (.ofNat 0))))))) .nil .nil)))
def m958 : PM AVal := (.node (some (.v (.one (.s (.ptr 830 0 0))))) (.node (some (.v (.one (.s (.ptr 830 0 0))))) (.node (some (.v (.one (.s (.d (.bool true)))))) .nil .nil) (.node (some (.v (.one (.s (.d (.bool true)))))) .nil .nil)) (.node (some (.v (.one (.s (.d (.int .i64 (.ofNat 0))))))) (.node (some (.v (.one (.s (.d (.str [0, 0])))))) .nil .nil) (.node (some (.v (.one (.s (.sl 11070 1 0 2 false))))) .nil .nil)))
def m959 : PM AVal := (.node (some (.v (.one (.s (.ptr 830 0 0))))) (.node (some (.v (.one (.s (.d h106))))) (.node none m949 m950) (.node (some (.v (.one (.s (.sl 11070 2 0 3 false))))) m952 m954)) (.node none (.node (some (.v (.one (.s (.d (.sl [] true)))))) m955 m956) (.node (some (.v (.one (.s (.d (.str [3, 6, 0])))))) m957 m958)))
def f960 : Fr := ⟨m959, [], none⟩
def x961 : AObj := (.mit (some 874) 1 [0] 1)
def m962 : PM AObj := (.node none (.node none (.node none .nil (.node none (.node none .nil (.node (some x249) .nil .nil)) .nil)) .nil) (.node (some x18) (.node none (.node none (.node none .nil (.node none (.node (some x250) .nil .nil) .nil)) .nil) .nil) (.node none .nil (.node none (.node none .nil (.node none (.node (some x961) .nil .nil) .nil)) .nil))))
def x963 : AObj := (.row 96 4 0 [(.s (.d (.int .i64 (.ofNat 1)))), (.s (.d (.int .i64 (.ofNat 5)))), (.s (.d (.int .i64 (.ofNat 0)))), (.s (.mp 11104))])
def m964 : PM AObj := (.node none (.node none m962 (.node none (.node none .nil (.node (some x91) .nil (.node none (.node none .nil (.node none (.node (some x862) .nil .nil) .nil)) .nil))) (.node none (.node (some x18) .nil .nil) .nil))) (.node (some x19) (.node (some x19) .nil .nil) (.node (some x20) (.node none .nil (.node (some x43) .nil (.node none (.node none .nil (.node none (.node (some x963) .nil .nil) .nil)) .nil))) .nil)))
def m965 : PM AObj := (.node none (.node none (.node none (.node none .nil (.node none (.node none .nil (.node none (.node (some x256) .nil .nil) .nil)) .nil)) .nil) (.node none (.node (some x18) .nil .nil) (.node none .nil (.node none (.node none .nil (.node none (.node (some x55) .nil .nil) .nil)) .nil)))) (.node none (.node none (.node (some x23) .nil .nil) .nil) .nil))
def x966 : AObj := (.row 137 2 0 [(.s (.d (.int .i64 (.ofNat 3)))), (.s (.d (.int .i64 (.ofNat 12))))])
def m967 : PM AObj := (.node none (.node none m965 (.node none .nil (.node none (.node none .nil (.node (some x257) .nil .nil)) .nil))) (.node (some x24) (.node none (.node none (.node none .nil (.node (some x25) .nil .nil)) .nil) (.node none (.node none .nil (.node none .nil (.node none (.node none .nil (.node none (.node (some x966) .nil .nil) .nil)) .nil))) .nil)) (.node (some x26) .nil .nil)))
def x968 : AObj := (.row 92 2 0 [(.s (.sl 11089 0 0 1 false)), (.s (.mp 11090))])
def x969 : AObj := (.row 24 3 0 [(.s (.d (.int .i64 (.ofNat 3)))), (.s (.d (.int .i64 (.ofNat 6)))), (.s (.d (.sl [] false)))])
def m970 : PM AObj := (.node none (.node none .nil (.node none .nil (.node none (.node none (.node none .nil (.node none (.node (some x265) .nil .nil) .nil)) .nil) .nil))) (.node none (.node none .nil (.node none .nil (.node none (.node none .nil (.node none (.node (some x969) .nil .nil) .nil)) .nil))) (.node none (.node (some x30) .nil .nil) (.node none (.node none (.node none .nil (.node (some x249) .nil .nil)) .nil) .nil))))
def m971 : PM AObj := (.node none (.node none .nil (.node none (.node none .nil (.node none (.node none .nil (.node none (.node (some x18) .nil .nil) .nil)) .nil)) (.node none .nil (.node none (.node none .nil (.node none (.node (some x966) .nil .nil) .nil)) .nil)))) (.node none (.node none (.node none .nil (.node none (.node none .nil (.node none (.node (some x267) .nil .nil) .nil)) .nil)) (.node (some x43) .nil .nil)) .nil))
def x972 : AObj := (.mit (some 910) 0 [] 0)
def m973 : PM AObj := (.node none (.node none .nil (.node none (.node none .nil (.node none (.node none .nil (.node none (.node (some x18) .nil .nil) .nil)) .nil)) (.node (some x249) .nil .nil))) (.node none (.node none (.node none .nil (.node none (.node none .nil (.node none (.node (some x18) .nil .nil) .nil)) .nil)) (.node (some x269) .nil (.node none (.node none .nil (.node none (.node (some x972) .nil .nil) .nil)) .nil))) .nil))
def m974 : PM AObj := (.node none (.node none (.node none .nil (.node (some x33) .nil (.node none (.node none .nil (.node none (.node (some x272) .nil .nil) .nil)) .nil))) (.node (some x34) .nil .nil)) (.node none (.node none .nil (.node none .nil (.node none (.node none .nil (.node none (.node (some x271) .nil .nil) .nil)) .nil))) (.node none (.node (some x30) .nil .nil) .nil)))
def m975 : PM AObj := (.node none (.node (some x18) (.node none m261 m262) (.node none (.node (some x29) (.node (some x29) .nil .nil) (.node none (.node none .nil (.node (some x207) .nil (.node none (.node none .nil (.node none (.node (some x968) .nil .nil) .nil)) .nil))) .nil)) m970)) (.node (some x32) (.node none m971 m973) (.node none (.node none (.node none (.node none .nil (.node none .nil (.node none (.node none .nil (.node none (.node (some x18) .nil .nil) .nil)) .nil))) .nil) (.node none (.node (some x18) .nil (.node (some x271) .nil .nil)) .nil)) m974)))
def m976 : PM AObj := (.node none (.node none .nil (.node none (.node none (.node none (.node none .nil (.node none (.node (some x275) .nil .nil) .nil)) .nil) .nil) (.node (some x276) .nil .nil))) (.node none (.node none .nil (.node (some x862) .nil (.node none (.node none .nil (.node none (.node (some x207) .nil .nil) .nil)) .nil))) (.node none .nil (.node none (.node none (.node none .nil (.node (some x18) .nil .nil)) .nil) .nil))))
def x977 : AObj := (.row 102 4 0 [(.s (.d (.int .i64 (.ofNat 5)))), (.s (.d (.str [116]))), (.s (.d h84)), (.s (.d (.int .i64 (.ofNat 1))))])
def m978 : PM AObj := (.node none (.node (some x32) (.node (some x32) (.node none .nil (.node none (.node none (.node none .nil (.node none (.node (some x41) .nil .nil) .nil)) .nil) .nil)) .nil) (.node none (.node none .nil (.node none .nil (.node none (.node none .nil (.node none (.node (some x977) .nil .nil) .nil)) .nil))) .nil)) (.node none .nil (.node none .nil (.node none .nil (.node none (.node none (.node none .nil (.node (some x18) .nil .nil)) .nil) .nil)))))
def x979 : AObj := (.map .str [⟨[(.str [116])], 0, (.one (.s (.ptr 11091 0 0)))⟩] 1)
def m980 : PM AObj := (.node (some x18) (.node (some x18) (.node none (.node (some x36) .nil (.node none (.node none .nil (.node none (.node (some x279) .nil .nil) .nil)) .nil)) .nil) (.node none .nil (.node none .nil (.node none (.node none .nil (.node none (.node (some x972) .nil .nil) .nil)) .nil)))) (.node none (.node none .nil (.node (some x217) .nil (.node none (.node none .nil (.node none (.node (some x979) .nil .nil) .nil)) .nil))) .nil))
def m981 : PM AObj := (.node none (.node none (.node none .nil (.node none (.node none (.node none .nil (.node none (.node (some x280) .nil .nil) .nil)) .nil) .nil)) (.node none (.node (some x37) .nil .nil) .nil)) (.node none (.node none .nil (.node (some x281) (.node none (.node none .nil (.node none (.node (some x282) .nil .nil) .nil)) .nil) (.node none (.node none .nil (.node none (.node (some x55) .nil .nil) .nil)) .nil))) .nil))
def m982 : PM AObj := (.node none (.node none (.node none (.node none .nil (.node (some x41) .nil .nil)) .nil) (.node none (.node none .nil (.node none .nil (.node none (.node none .nil (.node none (.node (some x862) .nil .nil) .nil)) .nil))) .nil)) (.node none .nil (.node none .nil (.node none (.node none (.node none (.node none .nil (.node none (.node (some x291) .nil .nil) .nil)) .nil) .nil) (.node none (.node none (.node none .nil (.node (some x272) .nil .nil)) .nil) .nil)))))
def x983 : AObj := (.row 96 4 0 [(.s (.d (.int .i64 (.ofNat 1)))), (.s (.d (.int .i64 (.ofNat 5)))), (.s (.d (.int .i64 (.ofNat 0)))), (.s (.mp 11134))])
def m984 : PM AObj := (.node none (.node none (.node none (.node (some x23) .nil .nil) (.node (some x43) .nil (.node none (.node none .nil (.node none (.node (some x862) .nil .nil) .nil)) .nil))) (.node none (.node none .nil (.node none (.node none .nil (.node none (.node (some x302) .nil .nil) .nil)) .nil)) .nil)) (.node none (.node none .nil (.node none (.node none (.node none .nil (.node none (.node (some x18) .nil .nil) .nil)) .nil) (.node none (.node none .nil (.node none (.node (some x983) .nil .nil) .nil)) .nil))) .nil))
def m985 : PM AObj := (.node none (.node none (.node none m288 (.node none (.node none (.node none .nil (.node none (.node none (.node none .nil (.node (some x289) .nil .nil)) .nil) .nil)) .nil) (.node (some x18) (.node none .nil (.node (some x290) .nil .nil)) .nil))) m982) (.node (some x29) (.node none m294 m296) (.node none m301 m984)))
def m986 : PM AObj := (.node none (.node none (.node none (.node none m976 (.node none (.node none (.node (some x18) .nil .nil) .nil) (.node none (.node none .nil (.node none .nil (.node none (.node none .nil (.node none (.node (some x961) .nil .nil) .nil)) .nil))) .nil))) m978) (.node none (.node (some x19) m980 m981) m285)) m985)
def m987 : PM AObj := (.node none (.node none (.node none (.node none .nil (.node none (.node none .nil (.node none (.node (some x279) .nil .nil) .nil)) .nil)) (.node (some x18) .nil .nil)) (.node (some x46) (.node none (.node none (.node none .nil (.node none (.node (some x306) .nil .nil) .nil)) .nil) .nil) .nil)) (.node none (.node none .nil (.node (some x862) .nil (.node none (.node none .nil (.node none (.node (some x862) .nil .nil) .nil)) .nil))) .nil))
def x988 : AObj := (.map .str [⟨[(.str [116])], 0, (.one (.s (.ptr 11114 0 0)))⟩] 1)
def m989 : PM AObj := (.node none (.node none m987 (.node none .nil (.node (some x20) (.node none .nil (.node (some x207) .nil (.node none (.node none .nil (.node none (.node (some x988) .nil .nil) .nil)) .nil))) (.node none (.node (some x40) .nil .nil) .nil)))) (.node none (.node none (.node none (.node none .nil (.node none (.node none (.node none .nil (.node none (.node (some x308) .nil .nil) .nil)) .nil) .nil)) (.node none .nil (.node (some x309) .nil .nil))) .nil) (.node none .nil (.node (some x47) .nil (.node (some x52) .nil .nil)))))
def x990 : AObj := (.row 92 2 0 [(.s (.sl 11142 0 0 1 false)), (.s (.mp 11143))])
def x991 : AObj := (.row 96 4 0 [(.s (.d (.int .i64 (.ofNat 1)))), (.s (.d (.int .i64 (.ofNat 5)))), (.s (.d (.int .i64 (.ofNat 0)))), (.s (.mp 11081))])
def m992 : PM AObj := (.node none (.node none (.node none (.node none .nil (.node none (.node none .nil (.node none (.node (some x256) .nil .nil) .nil)) .nil)) .nil) (.node none (.node (some x54) .nil .nil) (.node none .nil (.node none (.node none .nil (.node none (.node (some x990) .nil .nil) .nil)) .nil)))) (.node none (.node none .nil (.node none .nil (.node none (.node none .nil (.node none (.node (some x991) .nil .nil) .nil)) .nil))) .nil))
def m993 : PM AObj := (.node none m992 (.node none (.node none .nil (.node none (.node (some x18) .nil .nil) (.node none (.node none (.node none .nil (.node (some x311) .nil .nil)) .nil) .nil))) (.node none (.node none .nil (.node none .nil (.node none (.node none .nil (.node none (.node (some x977) .nil .nil) .nil)) .nil))) .nil)))
def m994 : PM AObj := (.node (some x29) (.node none (.node none (.node none .nil (.node (some x55) .nil .nil)) .nil) (.node (some x20) (.node none .nil (.node none .nil (.node none (.node none .nil (.node none (.node (some x969) .nil .nil) .nil)) .nil))) .nil)) (.node none (.node none (.node none .nil (.node none .nil (.node none (.node none .nil (.node none (.node (some x41) .nil .nil) .nil)) .nil))) .nil) (.node none .nil (.node none (.node (some x18) .nil .nil) .nil))))
def m995 : PM AObj := (.node none (.node (some x41) (.node (some x41) .nil .nil) (.node none (.node none .nil (.node none .nil (.node none (.node none .nil (.node none (.node (some x972) .nil .nil) .nil)) .nil))) .nil)) (.node none .nil (.node none .nil (.node none .nil (.node none (.node none (.node none .nil (.node (some x272) .nil .nil)) .nil) .nil)))))
def m996 : PM AObj := (.node none (.node none (.node none .nil (.node (some x55) .nil (.node none (.node none .nil (.node none (.node (some x252) .nil .nil) .nil)) .nil))) (.node none (.node none .nil (.node none (.node none .nil (.node none (.node (some x302) .nil .nil) .nil)) .nil)) .nil)) (.node none (.node none .nil (.node none .nil (.node none (.node none .nil (.node none (.node (some x969) .nil .nil) .nil)) .nil))) .nil))
def m997 : PM AObj := (.node (some x42) (.node (some x58) .nil (.node none .nil (.node (some x320) .nil .nil))) (.node none (.node none .nil (.node none .nil (.node none (.node none .nil (.node none (.node (some x55) .nil .nil) .nil)) .nil))) (.node none (.node none .nil (.node none (.node none .nil (.node none (.node (some x18) .nil .nil) .nil)) .nil)) .nil)))
def m998 : PM AObj := (.node none (.node none m319 (.node none .nil (.node none .nil (.node none (.node none .nil (.node none (.node none .nil (.node none (.node (some x18) .nil .nil) .nil)) .nil)) .nil)))) (.node none m997 (.node none (.node none .nil (.node none (.node none .nil (.node none (.node none .nil (.node none (.node (some x18) .nil .nil) .nil)) .nil)) .nil)) (.node none .nil (.node none .nil (.node none (.node none (.node none .nil (.node (some x249) .nil .nil)) .nil) .nil))))))
def m999 : PM AObj := (.node none (.node none (.node none (.node (some x36) .nil (.node none (.node none .nil (.node none (.node (some x279) .nil .nil) .nil)) .nil)) .nil) (.node none .nil (.node none .nil (.node none (.node none .nil (.node none (.node (some x969) .nil .nil) .nil)) .nil)))) (.node none (.node none (.node none .nil (.node none (.node none .nil (.node none (.node (some x18) .nil .nil) .nil)) .nil)) (.node (some x55) .nil (.node none (.node none .nil (.node none (.node (some x961) .nil .nil) .nil)) .nil))) .nil))
def x1000 : AObj := (.row 92 2 0 [(.s (.sl 11112 0 0 1 false)), (.s (.mp 11113))])
def m1001 : PM AObj := (.node none (.node none (.node none (.node (some x59) .nil .nil) (.node none (.node none (.node none .nil (.node none (.node (some x323) .nil .nil) .nil)) .nil) .nil)) (.node none (.node (some x37) .nil .nil) (.node (some x324) .nil .nil))) (.node none (.node none .nil (.node (some x325) .nil (.node none (.node none .nil (.node none (.node (some x1000) .nil .nil) .nil)) .nil))) .nil))
def x1002 : AObj := (.fro 3 0 [[(.str [105, 100]), (.int .i64 (.ofNat 2)), (.bool true)], [(.str [110, 97, 109, 101]), (.int .i64 (.ofNat 5)), (.bool false)]])
def m1003 : PM AObj := (.node none (.node none (.node none .nil (.node none .nil (.node none (.node none .nil (.node none (.node (some x25) .nil .nil) .nil)) .nil))) (.node (some x62) (.node (some x28) .nil .nil) .nil)) (.node none (.node none .nil (.node (some x1002) .nil .nil)) (.node none (.node (some x30) .nil .nil) .nil)))
def m1004 : PM AObj := (.node none (.node none (.node none .nil (.node none (.node none .nil (.node none (.node (some x279) .nil .nil) .nil)) .nil)) .nil) (.node none (.node none .nil (.node none (.node none .nil (.node none (.node (some x293) .nil .nil) .nil)) .nil)) (.node none .nil (.node none (.node none .nil (.node none (.node (some x977) .nil .nil) .nil)) .nil))))
def m1005 : PM AObj := (.node none (.node none (.node none .nil (.node (some x64) .nil (.node none (.node none .nil (.node none (.node (some x297) .nil .nil) .nil)) .nil))) .nil) (.node none (.node none .nil (.node none .nil (.node none (.node none .nil (.node none (.node (some x966) .nil .nil) .nil)) .nil))) (.node none .nil (.node none (.node none (.node none .nil (.node (some x335) .nil .nil)) .nil) .nil))))
def x1006 : AObj := (.row 56 6 0 [(.s (.ptr 794 0 0)), (.s (.d (.str [0, 0]))), (.s (.d (.bool false))), (.s (.d (.int .i64 (.ofNat 1)))), (.s (.d (.int .i64 (.ofNat 1)))), (.s (.d (.int .i64 (.ofNat 1))))])
def x1007 : AObj := (.row 137 2 2 [(.s (.d (.int .i64 (.ofNat 1)))), (.s (.d (.int .i64 (.ofNat 0)))), (.s (.d (.int .i64 (.ofNat 1)))), (.s (.d (.int .i64 (.ofNat 0)))), (.s (.d (.int .i64 (.ofNat 3)))), (.s (.d (.int .i64 (.ofNat 12))))])
def x1008 : AObj := (.map .str [⟨[(.str [116])], 0, (.one (.s (.ptr 11144 0 0)))⟩] 1)
def m1009 : PM AObj := (.node none (.node none (.node none .nil (.node (some x1006) (.node none (.node none .nil (.node none (.node (some x18) .nil .nil) .nil)) .nil) (.node none (.node none .nil (.node none (.node (some x1007) .nil .nil) .nil)) .nil))) .nil) (.node none (.node none .nil (.node none (.node none (.node none .nil (.node none (.node (some x34) .nil .nil) .nil)) .nil) (.node none (.node none .nil (.node none (.node (some x1008) .nil .nil) .nil)) .nil))) .nil))
def m1010 : PM AObj := (.node none (.node none (.node none (.node none m1004 (.node none (.node none (.node (some x23) .nil .nil) .nil) .nil)) m334) (.node none m1005 (.node none .nil (.node none .nil (.node none .nil (.node none (.node none (.node none .nil (.node (some x249) .nil .nil)) .nil) .nil)))))) (.node (some x41) m338 (.node none (.node none (.node none (.node none .nil (.node none .nil (.node none (.node none .nil (.node none (.node (some x297) .nil .nil) .nil)) .nil))) .nil) (.node (some x20) (.node none .nil (.node (some x55) .nil .nil)) .nil)) m1009)))
def m1011 : PM AObj := (.node (some x305) (.node none (.node none m989 (.node none m993 m994)) (.node none (.node none m315 m995) (.node (some x24) m316 (.node none m317 m996)))) (.node none (.node none m998 (.node none (.node none m999 m1001) (.node none (.node none (.node none (.node none .nil (.node (some x327) .nil .nil)) (.node (some x61) .nil .nil)) .nil) m1003))) m1010))
def s1012 : St := ⟨(.node (some x247) (.node (some x248) (.node none (.node none (.node none m964 m254) m967) m975) m986) m1011), 11148, 0⟩
theorem l1013 : PI (evO badP allP Ot A 1000000 198) 1000000 k947 2 f932 s938 f960 s1012 := fun m K => by kernel_rfl
def u1015 : Vl := (.agg [(.s (.d (.int .i64 (.ofNat 0)))), (.s (.d (.int .i64 (.ofNat 8))))])
def m1016 : PM AVal := (.node (some (.v (.one (.s (.d (.int .i64 (.ofNat 0))))))) (.node (some (.v (.one (.s (.ptr 830 0 1))))) (.node (some (.v u1015)) (.node (some (.v u948)) .nil .nil) .nil) (.node (some (.v (.one (.s (.ptr 830 0 0))))) .nil .nil)) (.node (some (.v (.one (.s (.ptr 830 0 0))))) (.node (some (.v (.one (.s (.d (.bool true)))))) .nil .nil) (.node (some (.v (.one (.s (.ptr 830 0 0))))) .nil .nil)))
def m1017 : PM AVal := (.node (some (.v (.one (.s (.d (.bool true)))))) (.node (some (.v (.one (.s (.ptr 830 0 0))))) .nil (.node (some (.v u948)) .nil .nil)) (.node (some (.v (.one (.s (.d (.str [])))))) (.node (some (.v (.one (.s (.ptr 830 0 1))))) .nil .nil) (.node (some (.v (.one (.s (.d (.int .i64 (.ofNat 1))))))) .nil .nil)))
def m1018 : PM AVal := (.node (some (.v (.one (.s (.ptr 11148 0 0))))) (.node (some (.v (.one (.s (.d h106))))) (.node none (.node (some (.v (.one (.s (.sl 11070 2 0 3 false))))) .nil .nil) .nil) (.node (some (.v (.one (.s (.ptr 830 0 0))))) .nil .nil)) (.node (some (.v (.one (.s (.d (.str [0, 0])))))) (.node (some (.v (.one (.s (.ptr 830 0 0))))) .nil .nil) (.node (some (.v (.one (.s (.ptr 830 0 5))))) .nil .nil)))
def y1019 : AVal := (.tup [(.one (.s (.d (.str [])))), (.one (.s (.d (.int .i64 (.ofNat 0))))), (.one (.s (.d (.int .i64 (.ofNat 8)))))])
def m1020 : PM AVal := (.node (some (.v (.one (.s (.ptr 830 0 0))))) (.node (some y1019) (.node (some (.v (.one (.s (.d (.bool true)))))) .nil .nil) (.node (some (.v (.one (.s (.d (.int .i64 (.ofNat 12))))))) .nil .nil)) (.node (some (.v (.one (.s (.d (.int .i64 (.ofNat 8))))))) (.node (some (.v (.one (.s (.d (.int .i64 (.ofNat 11))))))) .nil .nil) (.node (some (.v (.one (.s (.ptr 830 0 5))))) .nil .nil)))
def m1021 : PM AVal := (.node (some (.v (.one (.s (.d (.int .i64 (.ofNat 8))))))) (.node (some (.v (.one (.s (.d (.str [])))))) (.node (some (.v (.one (.s (.d (.int .i64 (.ofNat 8))))))) (.node (some (.v (.one (.s (.sl 11147 0 0 1 true))))) .nil .nil) .nil) (.node (some (.v (.one (.s (.ptr 830 0 1))))) .nil .nil)) (.node (some (.v (.one (.s (.ptr 830 0 1))))) (.node (some (.v (.one (.s (.ptr 830 0 0))))) .nil .nil) (.node (some (.v (.one (.s (.ptr 830 0 0))))) .nil .nil)))
def m1022 : PM AVal := (.node (some (.v (.one (.s (.d (.bool false)))))) (.node (some (.v (.one (.s (.ptr 830 0 1))))) (.node (some (.v (.one (.s (.d (.bool true)))))) .nil .nil) (.node (some (.v (.one (.s (.ptr 11094 0 1))))) .nil .nil)) (.node (some (.v (.one (.s (.d (.int .i64 (.ofNat 0))))))) (.node (some (.v (.one (.s (.d h951))))) .nil .nil) (.node (some (.v (.one (.s (.ptr 830 0 0))))) .nil .nil)))
def m1023 : PM AVal := (.node (some (.v (.one (.s (.ptr 830 0 0))))) (.node (some (.v (.one (.s (.d h106))))) .nil (.node (some (.v (.one (.s (.d (.str [3, 6, 0])))))) .nil .nil)) (.node (some y1019) (.node (some (.v (.one (.s (.ptr 830 0 0))))) .nil .nil) (.node (some (.v (.one (.s (.d (.int .i64 (.ofNat 0))))))) .nil .nil)))
def m1024 : PM AVal := (.node (some (.v (.one (.s (.ptr 830 0 0))))) (.node (some (.v (.one (.s (.ptr 830 0 0))))) (.node (some (.v (.one (.s (.d (.bool true)))))) .nil .nil) (.node (some (.v (.one (.s (.d (.bool true)))))) .nil .nil)) (.node (some (.v (.one (.s (.d (.int .i64 (.ofNat 8))))))) (.node (some (.v (.one (.s (.d (.str [0, 0])))))) .nil .nil) (.node (some (.v (.one (.s (.sl 11070 1 0 2 false))))) .nil .nil)))
def m1025 : PM AVal := (.node (some (.v (.one (.s (.ptr 830 0 0))))) (.node (some (.v (.one (.s (.d h106))))) (.node none m1016 m1017) (.node (some (.v (.one (.s (.sl 11070 2 0 3 false))))) m1018 m1020)) (.node none (.node (some (.v (.one (.s (.d (.sl [] true)))))) m1021 m1022) (.node (some (.v (.one (.s (.d (.str [])))))) m1023 m1024)))
def f1026 : Fr := ⟨m1025, [], none⟩
def x1027 : AObj := (.row 137 2 0 [(.s (.d (.int .i64 (.ofNat 0)))), (.s (.d (.int .i64 (.ofNat 8))))])
def m1028 : PM AObj := (.node none (.node none .nil (.node none .nil (.node none .nil (.node none (.node none .nil (.node none (.node (some x1027) .nil .nil) .nil)) .nil)))) (.node none (.node none (.node (some x18) .nil .nil) .nil) (.node none (.node none .nil (.node none (.node none .nil (.node none (.node (some x293) .nil .nil) .nil)) .nil)) (.node none (.node none (.node none .nil (.node none (.node (some x256) .nil .nil) .nil)) .nil) .nil))))
def m1029 : PM AObj := (.node none (.node none m315 m995) (.node (some x24) (.node none m1028 (.node none (.node none .nil (.node none (.node none .nil (.node none (.node none .nil (.node none (.node (some x287) .nil .nil) .nil)) .nil)) .nil)) (.node none (.node none .nil (.node (some x91) .nil .nil)) .nil))) (.node none m317 m996)))
def m1030 : PM AObj := (.node (some x247) (.node (some x248) (.node none (.node none (.node none m964 m254) m967) m975) m986) (.node (some x305) (.node none (.node none m989 (.node none m993 m994)) m1029) (.node none (.node none m998 (.node none (.node none m999 m1001) (.node none (.node none (.node none (.node none .nil (.node (some x327) .nil .nil)) (.node (some x61) .nil .nil)) .nil) m1003))) m1010)))
def s1031 : St := ⟨m1030, 11149, 0⟩
theorem t1014 : PC (evO badP allP Ot A 1000000 198) 1000000 k947 f960 s1012 (.exit 0) f1026 s1031 := fun K => by kernel_rfl
theorem l1032 : PL (evO badP allP Ot A 1000000 198) 1000000 k947 999997 f960 s1012 (.exit 0) f1026 s1031 := PL.out t1014 (fun h => nomatch h)
theorem l1033 : PL (evO badP allP Ot A 1000000 198) 1000000 k947 999999 f932 s938 (.exit 0) f1026 s1031 := PL.some l1013 (m := 999997) rfl l1032
theorem l1034 : PL (evO badP allP Ot A 1000000 198) 1000000 k945 1000000 f136 s132 (.exit 0) f1026 s1031 := PL.step t946 l1033
def k1035 : ACode := .loop k945
theorem t1036 : PC (evO badP allP Ot A 1000000 198) 1000000 k1035 f136 s132 (.exit 0) f1026 s1031 := PC.loop l1034
def k1037 : ACode := .block 0 k1035
theorem t1038 : PC (evO badP allP Ot A 1000000 198) 1000000 k1037 f136 s132 .normal f1026 s1031 := PC.block t1036 rfl
def k1039 : ACode := .seq (
.region [Q 66 (.mov (.t 5)),
Q 4 (.mov (.t 66))]) (
.ret)
def m1041 : PM AVal := (.node (some (.v (.one (.s (.ptr 830 0 0))))) (.node (some (.v (.one (.s (.d h106))))) (.node none (.node (some (.v (.one (.s (.sl 11070 2 0 3 false))))) .nil .nil) .nil) (.node (some (.v (.one (.s (.d (.str [3, 6, 0])))))) .nil .nil)) (.node (some y1019) (.node (some (.v (.one (.s (.ptr 830 0 0))))) .nil .nil) (.node (some (.v (.one (.s (.d (.int .i64 (.ofNat 0))))))) .nil .nil)))
def m1042 : PM AVal := (.node (some (.v (.one (.s (.ptr 830 0 0))))) (.node (some (.v (.one (.s (.d h106))))) (.node none m1016 m1017) (.node (some (.v (.one (.s (.sl 11070 2 0 3 false))))) m1018 m1020)) (.node none (.node (some (.v (.one (.s (.sl 11070 2 0 3 false))))) m1021 m1022) (.node (some (.v (.one (.s (.d (.str [])))))) m1041 m1024)))
def f1043 : Fr := ⟨m1042, [], none⟩
theorem t1040 : PC (evO badP allP Ot A 1000000 198) 1000000 k1039 f1026 s1031 .ret f1043 s1031 := fun K => by kernel_rfl
def k1044 : ACode := .seq k1037 k1039
theorem t1045 : PC (evO badP allP Ot A 1000000 198) 1000000 k1044 f136 s132 .ret f1043 s1031 := PC.seq t1038 t1040
def k1046 : ACode := .seq k137 k1044
theorem t1047 : PC (evO badP allP Ot A 1000000 198) 1000000 k1046 f136 s132 .ret f1043 s1031 := PC.seq t138 t1045
def k1048 : ACode := .seq k133 k1046
theorem t1049 : PC (evO badP allP Ot A 1000000 198) 1000000 k1048 f127 s132 .ret f1043 s1031 := PC.seq t134 t1047
def k1050 : ACode := .seq k123 k1048
theorem t1051 : PC (evO badP allP Ot A 1000000 198) 1000000 k1050 f122 s95 .ret f1043 s1031 := PC.seq t124 t1049
def k1052 : ACode := .seq k119 k1050
theorem t1053 : PC (evO badP allP Ot A 1000000 198) 1000000 k1052 f118 s95 .ret f1043 s1031 := PC.seq t120 t1051
def k1054 : ACode := .seq k115 k1052
theorem t1055 : PC (evO badP allP Ot A 1000000 198) 1000000 k1054 f117 s95 .ret f1043 s1031 := PC.seq t116 t1053
def g1056 : List Vl := [(.one (.s (.ptr 830 0 0))), (.one (.s (.d h106)))]
theorem cc1057k : a23.code = k1054 := by kernel_rfl
theorem cc1057 : PKO Ot A 1000000 199 23 g1056 s95 (.v (.one (.s (.sl 11070 2 0 3 false)))) s1031 := PKO.mk (af := a23) (K := k1054) (f := f117) (s0 := s95) (by kernel_rfl) (by kernel_rfl) cc1057k (by kernel_rfl) (by kernel_rfl) t1055 (fun K PN => by kernel_rfl)
def m1058 : PM AVal := (.node (some (.v (.one (.s (.d h87))))) (.node none (.node (some (.v (.one (.s (.ptr 830 0 0))))) (.node (some (.v (.one (.s (.d h98))))) .nil .nil) .nil) (.node (some (.v (.one (.s (.ptr 794 0 0))))) (.node (some (.v (.one (.s (.sl 11070 2 0 3 false))))) .nil .nil) .nil)) (.node (some y8) (.node (some (.v (.one (.s (.d (.int .i64 (.ofNat 1))))))) (.node (some (.v (.one (.s (.d h110))))) .nil .nil) .nil) (.node (some (.v (.one (.s (.sl 831 0 0 1 true))))) .nil .nil)))
def f1059 : Fr := ⟨(.node (some (.v (.one (.s (.d (.bool false)))))) (.node (some (.v (.one (.s (.ptr 1 0 0))))) m105 m107) (.node (some (.v (.one (.s (.ptr 794 0 0))))) m109 m1058)), [], none⟩
theorem o1060 : PX (evO badP allP Ot A 1000000 199) [⟨some 42, .e (.callf 23 [(.t 35), (.t 41)]), none, 0⟩] f112 s95 f1059 s1031 := PX.callO (by kernel_rfl) (by kernel_rfl) cc1057 (by kernel_rfl)
def r1061 : List AOper := [⟨some 8, .q (.mov (.t 42)), none, 0⟩]
def m1062 : PM AVal := (.node (some (.v (.one (.s (.d .nilp))))) (.node (some (.v (.one (.s (.sl 11070 2 0 3 false))))) (.node (some (.v (.one (.s (.ptr 1 0 0))))) (.node (some (.v (.one (.s (.d h87))))) .nil .nil) .nil) (.node (some (.v (.one (.s (.d (.bool false)))))) (.node (some (.v (.one (.s (.d h108))))) .nil .nil) .nil)) (.node none (.node (some y72) (.node (some (.v (.one (.s (.d h87))))) .nil .nil) .nil) (.node (some (.v (.one (.s (.d (.bool false)))))) .nil .nil)))
def f1063 : Fr := ⟨(.node (some (.v (.one (.s (.d (.bool false)))))) (.node (some (.v (.one (.s (.ptr 1 0 0))))) m105 m107) (.node (some (.v (.one (.s (.ptr 794 0 0))))) m1062 m1058)), [], none⟩
theorem o1064 : PX (evO badP allP Ot A 1000000 199) r1061 f1059 s1031 f1063 s1031 := fun r K => by kernel_rfl
def r1065 : List AOper := r1061 ++ []
theorem o1066 : PO (evO badP allP Ot A 1000000 199) r1065 f1059 s1031 .normal f1063 s1031 := PO.app o1064 PO.nil
def r1067 : List AOper := r114 ++ r1065
theorem o1068 : PO (evO badP allP Ot A 1000000 199) r1067 f112 s95 .normal f1063 s1031 := PO.app o1060 o1066
def r1069 : List AOper := r104 ++ r1067
theorem o1070 : PO (evO badP allP Ot A 1000000 199) r1069 f103 s95 .normal f1063 s1031 := PO.app o113 o1068
def k1071 : ACode := .region r1069
theorem t1072 : PC (evO badP allP Ot A 1000000 199) 1000000 k1071 f103 s95 .normal f1063 s1031 := PC.region o1070
def k1073 : ACode := .seq (
.region [Q 43 (.mov (.t 3)),
E 44 (.callf 25 [(.t 43)]),
Q 9 (.mov (.t 44))]) (
.seq (
.region [Q 45 (.mov (.t 3)),
Q 46 (.mov (.t 6)),
Q 47 (.bin .add .scalar (cs [0, 1, 97, 0, 0, 0, 0]) (.t 46)),
E 48 (.callf 23 [(.t 45), (.t 47)]),
Q 10 (.mov (.t 48))]) (
.seq (
.region [Q 50 (.mov (.t 3)),
E 51 (.callf 22 [(.t 50)]),
Q 49 (.mov (.t 51)),
Q 52 (.extract 0 (.t 49)),
Q 53 (.extract 1 (.t 49)),
Q 54 (.extract 2 (.t 49)),
Q 11 (.mov (.t 52)),
Q 12 (.mov (.t 53)),
Q 13 (.mov (.t 54))]) (
.seq (
.region [Q 55 (.mov (.t 5)),
Q 56 (.bin .eql .scalar (.t 55) (ci 1)),
Q 57 (.mov (.t 56)),
⟨some 58, .q (.mov (.t 8)), some (57, true), 0⟩,
⟨some 59, .e (.callf 74 [(.t 58)]), some (57, true), 0⟩,
⟨some 60, .q (.build [dc (.int .i64 0), dc (.int .i64 0)] [(0, 1, (ci 1))]), some (57, true), 0⟩,
⟨some 61, .q (.build [dc (.int .i64 0), dc (.int .i64 0)] [(0, 1, (ci 1))]), some (57, true), 0⟩,
⟨some 62, .q (.build [dc (.int .i64 0), dc (.int .i64 0)] [(0, 1, (ci 3)), (1, 1, (ci 12))]), some (57, true), 0⟩,
⟨some 63, .m (.bslice 145 2 3 [dc (.int .i64 0), dc (.int .i64 0), dc (.int .i64 0), dc (.int .i64 0), dc (.int .i64 0), dc (.int .i64 0)] [(0, 2, (.t 60)), (2, 2, (.t 61)), (4, 2, (.t 62))]), some (57, true), 0⟩,
⟨some 64, .e (.callf 73 [(.t 59), (.t 63)]), some (57, true), 0⟩,
Q 65 (.pick (.t 57) (.t 64) (cb false)),
Q 66 (.mov (.t 65)),
⟨some 67, .q (.mov (.t 9)), some (66, true), 0⟩,
⟨some 68, .q (.bin .eql .scalar (.t 67) (ci 2)), some (66, true), 0⟩,
Q 69 (.pick (.t 66) (.t 68) (cb false)),
Q 70 (.mov (.t 69)),
⟨some 71, .q (.mov (.t 10)), some (70, true), 0⟩,
⟨some 72, .e (.callf 74 [(.t 71)]), some (70, true), 0⟩,
⟨some 73, .q (.build [dc (.int .i64 0), dc (.int .i64 0)] [(1, 1, (ci 9))]), some (70, true), 0⟩,
⟨some 74, .m (.bslice 145 2 1 [dc (.int .i64 0), dc (.int .i64 0)] [(0, 2, (.t 73))]), some (70, true), 0⟩,
⟨some 75, .e (.callf 73 [(.t 72), (.t 74)]), some (70, true), 0⟩,
Q 76 (.pick (.t 70) (.t 75) (cb false)),
Q 77 (.mov (.t 76)),
⟨some 78, .q (.mov (.t 3)), some (77, true), 0⟩,
⟨some 79, .e (.callf 25 [(.t 78)]), some (77, true), 0⟩,
⟨some 80, .q (.bin .eql .scalar (.t 79) (ci 0)), some (77, true), 0⟩,
Q 81 (.pick (.t 77) (.t 80) (cb false)),
Q 82 (.mov (.t 81)),
⟨some 83, .q (.mov (.t 3)), some (82, true), 0⟩,
⟨some 84, .e (.callf 24 [(.t 83)]), some (82, true), 0⟩,
⟨some 85, .q (.bin .eql .scalar (.t 84) (ci 1)), some (82, true), 0⟩,
Q 86 (.pick (.t 82) (.t 85) (cb false)),
Q 87 (.mov (.t 86)),
⟨some 88, .q (.mov (.t 3)), some (87, true), 0⟩,
⟨some 89, .e (.callf 26 [(.t 88)]), some (87, true), 0⟩,
⟨some 90, .q (.un .not (.t 89)), some (87, true), 0⟩,
Q 91 (.pick (.t 87) (.t 90) (cb false)),
Q 92 (.mov (.t 91)),
⟨some 93, .q (.mov (.t 11)), some (92, true), 0⟩,
⟨some 94, .q (.bin .eql .scalar (.t 93) (ci 1)), some (92, true), 0⟩,
Q 95 (.pick (.t 92) (.t 94) (cb false)),
Q 96 (.mov (.t 95)),
⟨some 97, .q (.mov (.t 12)), some (96, true), 0⟩,
⟨some 98, .q (.bin .eql .scalar (.t 97) (ci 1)), some (96, true), 0⟩,
Q 99 (.pick (.t 96) (.t 98) (cb false)),
Q 100 (.mov (.t 99)),
⟨some 101, .q (.mov (.t 13)), some (100, true), 0⟩,
⟨some 102, .q (.bin .eql .scalar (.t 101) (ci 2)), some (100, true), 0⟩,
Q 103 (.pick (.t 100) (.t 102) (cb false)),
Q 0 (.mov (.t 103))]) (
.ret))))
def h1075 : Dat := (.str [0, 1, 97, 0, 0, 0, 0, 0, 0, 0, 21, 1, 5, 1, 3, 16, 1, 116, 1, 2, 2, 105, 100, 2, 1, 4, 110, 97, 109, 101, 5, 0, 138, 84, 76, 101])
def m1076 : PM AVal := (.node (some (.v (.one (.s (.ptr 830 0 0))))) (.node (some (.v (.one (.s (.d h98))))) (.node (some (.v (.one (.s (.sl 11151 0 0 1 false))))) .nil .nil) (.node (some (.v (.one (.s (.d (.bool true)))))) .nil .nil)) (.node (some (.v (.one (.s (.d (.int .i64 (.ofNat 1))))))) (.node (some (.v (.one (.s (.d (.bool true)))))) .nil .nil) .nil))
def m1077 : PM AVal := (.node (some (.v (.one (.s (.d h98))))) (.node (some y8) (.node (some (.v u83)) (.node (some (.v (.one (.s (.sl 11168 0 0 3 true))))) .nil .nil) (.node (some (.v (.one (.s (.d (.bool true)))))) .nil .nil)) (.node (some (.v (.one (.s (.d h1075))))) (.node (some (.v (.one (.s (.d (.int .i64 (.ofNat 0))))))) .nil .nil) .nil)) m1076)
def y1078 : AVal := (.tup [(.one (.s (.d (.int .i64 (.ofNat 1))))), (.one (.s (.d (.int .i64 (.ofNat 1))))), (.one (.s (.d (.int .i64 (.ofNat 2)))))])
def h1079 : Dat := (.sl [[(.int .i64 (.ofNat 1)), (.int .i64 (.ofNat 0))], [(.int .i64 (.ofNat 1)), (.int .i64 (.ofNat 0))], [(.int .i64 (.ofNat 3)), (.int .i64 (.ofNat 12))]] false)
def m1080 : PM AVal := (.node (some (.v (.one (.s (.d (.int .i64 (.ofNat 1))))))) (.node (some y72) (.node (some (.v (.one (.s (.ptr 830 0 0))))) (.node (some (.v (.one (.s (.d (.int .i64 (.ofNat 2))))))) .nil .nil) (.node (some (.v (.one (.s (.d (.bool true)))))) .nil .nil)) (.node (some y1078) (.node (some (.v (.one (.s (.ptr 830 0 0))))) .nil .nil) .nil)) (.node (some (.v (.one (.s (.d (.bool false)))))) (.node (some (.v (.one (.s (.ptr 830 0 0))))) (.node (some (.v (.one (.s (.d (.bool true)))))) .nil .nil) .nil) (.node (some (.v (.one (.s (.d h1079))))) (.node (some (.v (.one (.s (.d (.bool true)))))) .nil .nil) .nil)))
def u1081 : Vl := (.agg [(.s (.d (.int .i64 (.ofNat 0)))), (.s (.d (.int .i64 (.ofNat 9))))])
def m1082 : PM AVal := (.node (some (.v (.one (.s (.d (.int .i64 (.ofNat 2))))))) (.node (some (.v (.one (.s (.ptr 794 0 0))))) (.node (some (.v u100)) (.node (some (.v (.one (.s (.d (.bool true)))))) .nil .nil) (.node (some (.v (.one (.s (.d (.int .i64 (.ofNat 1))))))) .nil .nil)) (.node (some y1078) (.node (some (.v (.one (.s (.d (.bool true)))))) .nil .nil) .nil)) (.node (some (.v (.one (.s (.d (.bool false)))))) (.node (some (.v (.one (.s (.d h106))))) (.node (some (.v u1081)) .nil .nil) .nil) (.node (some (.v (.one (.s (.d (.bool true)))))) (.node (some (.v (.one (.s (.d (.bool false)))))) .nil .nil) .nil)))
def m1083 : PM AVal := (.node (some (.v (.one (.s (.d .nilp))))) (.node (some (.v (.one (.s (.d h87))))) (.node (some (.v (.one (.s (.d (.bool true)))))) .nil .nil) (.node (some (.v (.one (.s (.d (.int .i64 (.ofNat 2))))))) .nil .nil)) (.node (some (.v (.one (.s (.d (.int .i64 (.ofNat 1))))))) (.node (some (.v (.one (.s (.d (.bool true)))))) .nil .nil) .nil))
def m1084 : PM AVal := (.node (some (.v (.one (.s (.d (.int .i64 (.ofNat 2))))))) m1083 (.node (some (.v u85)) (.node (some (.v (.one (.s (.ptr 830 0 0))))) (.node (some (.v (.one (.s (.d (.bool true)))))) .nil .nil) .nil) (.node (some (.v u858)) (.node (some (.v (.one (.s (.d (.int .i64 (.ofNat 1))))))) .nil .nil) .nil)))
def m1085 : PM AVal := (.node (some (.v (.one (.s (.ptr 1 0 0))))) (.node (some (.v (.one (.s (.d h87))))) (.node (some (.v (.one (.s (.d (.bool true)))))) .nil .nil) (.node (some (.v (.one (.s (.d (.bool true)))))) .nil .nil)) (.node (some (.v (.one (.s (.sl 11151 0 0 1 false))))) (.node (some (.v (.one (.s (.d (.bool true)))))) .nil .nil) .nil))
def h1086 : Dat := (.sl [[(.int .i64 (.ofNat 0)), (.int .i64 (.ofNat 9))]] false)
def m1087 : PM AVal := (.node (some (.v (.one (.s (.sl 11070 2 0 3 false))))) m1085 (.node (some (.v (.one (.s (.d (.bool false)))))) (.node (some (.v (.one (.s (.d h108))))) (.node (some (.v (.one (.s (.d h1086))))) .nil .nil) .nil) (.node (some (.v (.one (.s (.d (.bool true)))))) (.node (some (.v (.one (.s (.ptr 830 0 0))))) .nil .nil) .nil)))
def m1088 : PM AVal := (.node (some y72) (.node (some (.v (.one (.s (.d h87))))) (.node (some (.v (.one (.s (.d (.bool true)))))) .nil .nil) (.node (some (.v (.one (.s (.d (.bool true)))))) .nil .nil)) (.node (some (.v (.one (.s (.d (.int .i64 (.ofNat 1))))))) (.node (some (.v (.one (.s (.d (.int .i64 (.ofNat 1))))))) .nil .nil) .nil))
def m1089 : PM AVal := (.node (some (.v (.one (.s (.d (.int .i64 (.ofNat 1))))))) m1088 (.node (some (.v (.one (.s (.d (.bool false)))))) (.node (some (.v (.one (.s (.d (.int .i64 (.ofNat 2))))))) (.node (some (.v (.one (.s (.d (.bool true)))))) .nil .nil) .nil) (.node (some (.v u858)) (.node (some (.v (.one (.s (.d (.bool true)))))) .nil .nil) .nil)))
def m1090 : PM AVal := (.node (some (.v (.one (.s (.ptr 830 0 0))))) (.node (some (.v (.one (.s (.d h98))))) (.node (some (.v (.one (.s (.d (.bool true)))))) .nil .nil) (.node (some (.v (.one (.s (.d (.bool true)))))) .nil .nil)) (.node (some (.v (.one (.s (.ptr 830 0 0))))) (.node (some (.v (.one (.s (.d (.bool true)))))) .nil .nil) .nil))
def m1091 : PM AVal := (.node (some (.v (.one (.s (.sl 11151 0 0 1 false))))) m1090 (.node (some (.v (.one (.s (.ptr 794 0 0))))) (.node (some (.v (.one (.s (.sl 11070 2 0 3 false))))) (.node (some (.v (.one (.s (.sl 11169 0 0 1 true))))) .nil .nil) .nil) (.node (some (.v (.one (.s (.sl 11070 2 0 3 false))))) (.node (some (.v (.one (.s (.d (.bool true)))))) .nil .nil) .nil)))
def m1092 : PM AVal := (.node (some (.v (.one (.s (.d (.int .i64 (.ofNat 1))))))) (.node (some (.v (.one (.s (.d h110))))) (.node (some (.v (.one (.s (.d (.bool true)))))) .nil .nil) (.node (some (.v (.one (.s (.d (.bool true)))))) .nil .nil)) (.node (some (.v (.one (.s (.d (.int .i64 (.ofNat 2))))))) (.node (some (.v (.one (.s (.d (.bool true)))))) .nil .nil) .nil))
def m1093 : PM AVal := (.node (some (.v (.one (.s (.d h87))))) m1091 (.node (some y8) m1092 (.node (some (.v (.one (.s (.sl 831 0 0 1 true))))) (.node (some (.v (.one (.s (.d h87))))) (.node (some (.v (.one (.s (.ptr 830 0 0))))) .nil .nil) .nil) (.node (some (.v u948)) (.node (some (.v (.one (.s (.d (.bool true)))))) .nil .nil) .nil))))
def m1094 : PM AVal := (.node (some (.v (.one (.s (.d (.bool true)))))) (.node (some (.v (.one (.s (.ptr 1 0 0))))) (.node (some (.v (.one (.s (.ptr 830 0 0))))) m1077 m1080) (.node (some (.v (.one (.s (.d (.int .i64 (.ofNat 1))))))) m1082 m1084)) (.node (some (.v (.one (.s (.ptr 794 0 0))))) (.node (some (.v (.one (.s (.d .nilp))))) m1087 m1089) m1093))
def f1095 : Fr := ⟨m1094, [], none⟩
def x1096 : AObj := (.row 137 2 0 [(.s (.d (.int .i64 (.ofNat 0)))), (.s (.d (.int .i64 (.ofNat 9))))])
def m1097 : PM AObj := (.node none (.node none (.node none .nil (.node none (.node none .nil (.node none (.node (some x18) .nil .nil) .nil)) .nil)) (.node none (.node none (.node none .nil (.node none (.node (some x252) .nil .nil) .nil)) .nil) .nil)) (.node none .nil (.node none .nil (.node none (.node none .nil (.node none (.node (some x1096) .nil .nil) .nil)) .nil))))
def x1098 : AObj := (.map .str [⟨[(.str [116])], 0, (.one (.s (.ptr 11181 0 0)))⟩] 1)
def m1099 : PM AObj := (.node none (.node none .nil (.node none (.node none (.node none .nil (.node none (.node (some x40) .nil .nil) .nil)) .nil) (.node none (.node none .nil (.node none (.node (some x18) .nil .nil) .nil)) .nil))) (.node none (.node (some x28) .nil .nil) (.node none .nil (.node none (.node none .nil (.node none (.node (some x1098) .nil .nil) .nil)) .nil))))
def m1100 : PM AObj := (.node (some x18) (.node none m261 (.node none m1099 (.node none (.node none .nil (.node none (.node none (.node none .nil (.node none (.node (some x61) .nil .nil) .nil)) .nil) .nil)) .nil))) (.node none (.node (some x29) (.node (some x29) .nil .nil) (.node none (.node none .nil (.node (some x207) .nil (.node none (.node none .nil (.node none (.node (some x968) .nil .nil) .nil)) .nil))) .nil)) m970))
def m1101 : PM AObj := (.node none (.node none .nil (.node none (.node none .nil (.node none (.node none .nil (.node none (.node (some x18) .nil .nil) .nil)) .nil)) (.node (some x249) .nil (.node none (.node none .nil (.node none (.node (some x977) .nil .nil) .nil)) .nil)))) (.node none (.node none (.node none .nil (.node none (.node none .nil (.node none (.node (some x18) .nil .nil) .nil)) .nil)) (.node (some x269) .nil (.node none (.node none .nil (.node none (.node (some x972) .nil .nil) .nil)) .nil))) .nil))
def m1102 : PM AObj := (.node none m1100 (.node (some x32) (.node none m971 m1101) (.node none (.node none (.node none (.node none .nil (.node none .nil (.node none (.node none .nil (.node none (.node (some x18) .nil .nil) .nil)) .nil))) .nil) (.node none (.node (some x18) .nil (.node (some x271) .nil .nil)) .nil)) m974)))
def x1103 : AObj := (.row 145 2 0 [(.s (.d (.int .i64 (.ofNat 0)))), (.s (.d (.int .i64 (.ofNat 9))))])
def m1104 : PM AObj := (.node none (.node none (.node (some x18) .nil .nil) (.node none .nil (.node none .nil (.node none (.node none .nil (.node none (.node (some x1103) .nil .nil) .nil)) .nil)))) (.node none (.node none .nil (.node none .nil (.node none (.node none .nil (.node none (.node (some x961) .nil .nil) .nil)) .nil))) .nil))
def m1105 : PM AObj := (.node none (.node none .nil (.node none .nil (.node (some x276) .nil (.node none (.node none .nil (.node none (.node (some x1096) .nil .nil) .nil)) .nil)))) (.node none .nil (.node none (.node none .nil (.node none (.node none .nil (.node none (.node (some x293) .nil .nil) .nil)) .nil)) (.node none (.node none (.node none .nil (.node none (.node (some x256) .nil .nil) .nil)) .nil) .nil))))
def x1106 : AObj := (.row 92 2 0 [(.s (.sl 11179 0 0 1 false)), (.s (.mp 11180))])
def m1107 : PM AObj := (.node (some x42) (.node (some x26) .nil (.node none (.node none .nil (.node none (.node none .nil (.node none (.node (some x287) .nil .nil) .nil)) .nil)) (.node none .nil (.node none (.node none .nil (.node none (.node (some x1106) .nil .nil) .nil)) .nil)))) (.node none (.node none .nil (.node (some x91) .nil .nil)) (.node none .nil (.node none (.node none (.node none .nil (.node none (.node (some x295) .nil .nil) .nil)) .nil) .nil))))
def m1108 : PM AObj := (.node none (.node none (.node none m288 (.node none (.node none (.node none .nil (.node none (.node none (.node none .nil (.node (some x289) .nil .nil)) .nil) .nil)) .nil) (.node (some x18) (.node none .nil (.node (some x290) .nil .nil)) .nil))) m982) (.node (some x29) (.node none m1105 m1107) (.node none m301 m984)))
def m1109 : PM AObj := (.node (some x248) (.node none (.node none (.node none m964 (.node none (.node none m1097 .nil) (.node none (.node none .nil (.node none (.node (some x18) .nil .nil) .nil)) (.node (some x253) .nil .nil)))) m967) m1102) (.node none (.node none (.node none (.node none m976 m1104) m978) (.node none (.node (some x19) m980 m981) m285)) m1108))
def x1110 : AObj := (.row 145 2 0 [(.s (.d (.int .i64 (.ofNat 1)))), (.s (.d (.int .i64 (.ofNat 0)))), (.s (.d (.int .i64 (.ofNat 1)))), (.s (.d (.int .i64 (.ofNat 0)))), (.s (.d (.int .i64 (.ofNat 3)))), (.s (.d (.int .i64 (.ofNat 12))))])
def m1111 : PM AObj := (.node none (.node none .nil (.node none .nil (.node none .nil (.node none (.node none .nil (.node none (.node (some x1110) .nil .nil) .nil)) .nil)))) (.node (some x20) (.node none .nil (.node (some x207) .nil (.node none (.node none .nil (.node none (.node (some x988) .nil .nil) .nil)) .nil))) (.node none (.node (some x40) .nil .nil) .nil)))
def m1112 : PM AObj := (.node none (.node none (.node none (.node none .nil (.node none (.node none (.node none .nil (.node none (.node (some x308) .nil .nil) .nil)) .nil) .nil)) (.node none .nil (.node (some x309) .nil (.node none (.node none .nil (.node none (.node (some x1027) .nil .nil) .nil)) .nil)))) .nil) (.node none .nil (.node (some x47) .nil (.node (some x52) .nil .nil))))
def m1113 : PM AObj := (.node none (.node none .nil (.node none (.node none (.node (some x36) .nil .nil) .nil) (.node none .nil (.node none (.node none (.node none .nil (.node (some x41) .nil .nil)) .nil) .nil)))) (.node none (.node none (.node none .nil (.node none (.node none (.node none .nil (.node (some x314) .nil .nil)) .nil) .nil)) (.node none .nil (.node none .nil (.node none (.node none .nil (.node none (.node (some x961) .nil .nil) .nil)) .nil)))) .nil))
def m1114 : PM AObj := (.node none (.node none .nil (.node none (.node none .nil (.node none (.node none .nil (.node none (.node (some x287) .nil .nil) .nil)) .nil)) (.node none .nil (.node none (.node none .nil (.node none (.node (some x55) .nil .nil) .nil)) .nil)))) (.node none (.node none .nil (.node (some x91) .nil .nil)) .nil))
def x1115 : AObj := (.row 96 4 0 [(.s (.d (.int .i64 (.ofNat 1)))), (.s (.d (.int .i64 (.ofNat 5)))), (.s (.d (.int .i64 (.ofNat 0)))), (.s (.mp 11171))])
def m1116 : PM AObj := (.node none m319 (.node none (.node none .nil (.node none .nil (.node none .nil (.node none (.node none .nil (.node none (.node (some x1115) .nil .nil) .nil)) .nil)))) (.node none .nil (.node none (.node none .nil (.node none (.node none .nil (.node none (.node (some x18) .nil .nil) .nil)) .nil)) .nil))))
def m1117 : PM AObj := (.node none m1116 (.node none m997 (.node none (.node none .nil (.node none (.node none .nil (.node none (.node none .nil (.node none (.node (some x18) .nil .nil) .nil)) .nil)) .nil)) (.node none .nil (.node none .nil (.node none (.node none (.node none .nil (.node (some x249) .nil .nil)) .nil) .nil))))))
def m1118 : PM AObj := (.node none (.node none (.node none (.node none .nil (.node none (.node none (.node none .nil (.node none (.node (some x18) .nil .nil) .nil)) .nil) .nil)) (.node none .nil (.node (some x55) .nil (.node none (.node none .nil (.node none (.node (some x1096) .nil .nil) .nil)) .nil)))) .nil) (.node (some x29) (.node none .nil (.node (some x18) .nil (.node none .nil (.node none (.node none .nil (.node none (.node (some x972) .nil .nil) .nil)) .nil)))) (.node none (.node none .nil (.node (some x337) .nil .nil)) .nil)))
def x1119 : AObj := (.row 56 6 0 [(.s (.ptr 794 0 0)), (.s (.d (.str []))), (.s (.d (.bool false))), (.s (.d (.int .i64 (.ofNat 1)))), (.s (.d (.int .i64 (.ofNat 1)))), (.s (.d (.int .i64 (.ofNat 2))))])
def m1120 : PM AObj := (.node none (.node none (.node none .nil (.node (some x1119) (.node none (.node none .nil (.node none (.node (some x18) .nil .nil) .nil)) .nil) (.node none (.node none .nil (.node none (.node (some x1007) .nil .nil) .nil)) .nil))) .nil) (.node none (.node none .nil (.node none (.node none (.node none .nil (.node none (.node (some x34) .nil .nil) .nil)) .nil) (.node none (.node none .nil (.node none (.node (some x1008) .nil .nil) .nil)) .nil))) .nil))
def m1121 : PM AObj := (.node none (.node none (.node none (.node none m1004 (.node none (.node none (.node (some x23) .nil .nil) .nil) .nil)) m334) (.node none m1005 (.node none .nil (.node none .nil (.node none .nil (.node none (.node none (.node none .nil (.node (some x249) .nil .nil)) .nil) .nil)))))) (.node (some x41) m1118 (.node none (.node none (.node none (.node none .nil (.node none .nil (.node none (.node none .nil (.node none (.node (some x297) .nil .nil) .nil)) .nil))) .nil) (.node (some x20) (.node none .nil (.node (some x55) .nil .nil)) .nil)) m1120)))
def m1122 : PM AObj := (.node (some x305) (.node none (.node none (.node none (.node none m987 m1111) m1112) (.node none m993 m994)) (.node none (.node none m1113 m995) (.node (some x24) (.node none m1028 m1114) (.node none m317 m996)))) (.node none (.node none m1117 (.node none (.node none m999 m1001) (.node none (.node none (.node none (.node none .nil (.node (some x327) .nil .nil)) (.node (some x61) .nil .nil)) .nil) m1003))) m1121))
def s1123 : St := ⟨(.node (some x247) m1109 m1122), 11183, 0⟩
theorem t1074 : PC (evO badP allP Ot A 1000000 199) 1000000 k1073 f1063 s1031 .ret f1095 s1123 := fun K => by kernel_rfl
def k1124 : ACode := .seq k1071 k1073
theorem t1125 : PC (evO badP allP Ot A 1000000 199) 1000000 k1124 f103 s95 .ret f1095 s1123 := PC.seq t1072 t1074
def k1126 : ACode := .seq k96 k1124
theorem t1127 : PC (evO badP allP Ot A 1000000 199) 1000000 k1126 f90 s95 .ret f1095 s1123 := PC.seq t97 t1125
def k1128 : ACode := .seq k81 k1126
theorem t1129 : PC (evO badP allP Ot A 1000000 199) 1000000 k1128 f80 s69 .ret f1095 s1123 := PC.seq t82 t1127
def k1130 : ACode := .seq k76 k1128
theorem t1131 : PC (evO badP allP Ot A 1000000 199) 1000000 k1130 f75 s69 .ret f1095 s1123 := PC.seq t77 t1129
def k1132 : ACode := .seq k70 k1130
theorem t1133 : PC (evO badP allP Ot A 1000000 199) 1000000 k1132 f10 s69 .ret f1095 s1123 := PC.seq t71 t1131
def k1134 : ACode := .seq k6 k1132
theorem t1135 : PC (evO badP allP Ot A 1000000 199) 1000000 k1134 f5 s4 .ret f1095 s1123 := PC.seq t7 t1133
def k1136 : ACode := .seq k1 k1134
theorem t1137 : PC (evO badP allP Ot A 1000000 199) 1000000 k1136 f3 s4 .ret f1095 s1123 := PC.seq t2 t1135
def g1138 : List Vl := []
theorem cc1139k : a27.code = k1136 := by kernel_rfl
theorem cc1139 : PKO Ot A 1000000 200 27 g1138 s4 (.v (.one (.s (.d (.bool true))))) s4 := PKO.mk (af := a27) (K := k1136) (f := f3) (s0 := s4) (by kernel_rfl) (by kernel_rfl) cc1139k (by kernel_rfl) (by kernel_rfl) t1137 (fun K PN => by kernel_rfl)
theorem run_known : PKO Ot A 1000000 200 27 [] St.zero (dv (.bool true)) St.zero := cc1139
end Go.Proofs.YtcdebohjjkffkaaGreat.ts
