/- A closed run, printed by program: piece by piece. -/
import Derived.Test.YtcdebohjjkffkaaGreatK2
namespace Go.Proofs.YtcdebohjjkffkaaGreat.t
open Go Go.Rf
set_option maxRecDepth 1000000
def k329 : ACode := .seq (
.region [Q 118 (.mov (.t 1)),
E 119 (.callf 9 [(.t 118), (.c (.one (dc (.int .i64 9))))]),
Q 117 (.mov (.t 119)),
Q 120 (.extract 0 (.t 117)),
Q 121 (.extract 1 (.t 117)),
Q 23 (.mov (.t 120)),
Q 24 (.mov (.t 121))]) (
.seq (
.region [Q 123 (.mov (.t 1)),
Q 124 (.mov (.t 10)),
Q 125 (.iaddr 1 none (.t 124) (.c (.one (dc (.int .i64 0))))),
Q 126 (.load false 1 (.t 125)),
E 127 (.callf 6 [(.t 123), (.c (.one (dc (.str [116])))), (.t 126), (.c (.one (dc (.int .i64 8))))]),
Q 122 (.mov (.t 127)),
Q 128 (.extract 0 (.t 122)),
Q 129 (.extract 1 (.t 122)),
Q 25 (.mov (.t 128)),
Q 26 (.mov (.t 129))]) (
.seq (
.region [Q 130 (.mov (.t 3)),
Q 131 (.bin .eql .scalar (.t 130) (.c (.one (dc (.int .i64 0))))),
Q 132 (.mov (.t 131)),
⟨some 133, .q (.mov (.t 4)), some (132, true), 0⟩,
⟨some 134, .q (.bin .eql .scalar (.t 133) (.c (.one (dc (.int .i64 0))))), some (132, true), 0⟩,
Q 135 (.pick (.t 132) (.t 134) (.c (.one (dc (.bool false))))),
Q 136 (.mov (.t 135)),
⟨some 137, .q (.mov (.t 5)), some (136, true), 0⟩,
⟨some 138, .q (.bin .eql .scalar (.t 137) (.c (.one (dc (.int .i64 0))))), some (136, true), 0⟩,
Q 139 (.pick (.t 136) (.t 138) (.c (.one (dc (.bool false))))),
Q 140 (.mov (.t 139)),
⟨some 141, .q (.mov (.t 6)), some (140, true), 0⟩,
⟨some 142, .q (.bin .eql .scalar (.t 141) (.c (.one (dc (.int .i64 12))))), some (140, true), 0⟩,
Q 143 (.pick (.t 140) (.t 142) (.c (.one (dc (.bool false))))),
Q 144 (.mov (.t 143)),
⟨some 145, .q (.mov (.t 7)), some (144, true), 0⟩,
⟨some 146, .q (.bin .eql .scalar (.t 145) (.c (.one (dc (.int .i64 5))))), some (144, true), 0⟩,
Q 147 (.pick (.t 144) (.t 146) (.c (.one (dc (.bool false))))),
Q 148 (.mov (.t 147)),
⟨some 149, .q (.mov (.t 8)), some (148, true), 0⟩,
⟨some 150, .q (.bin .eql .scalar (.t 149) (.c (.one (dc (.int .i64 1))))), some (148, true), 0⟩,
Q 151 (.pick (.t 148) (.t 150) (.c (.one (dc (.bool false))))),
Q 152 (.mov (.t 151)),
⟨some 153, .q (.mov (.t 9)), some (152, true), 0⟩,
⟨some 154, .q (.bin .eql .scalar (.t 153) (.c (.one (dc (.int .i64 18))))), some (152, true), 0⟩,
Q 155 (.pick (.t 152) (.t 154) (.c (.one (dc (.bool false))))),
Q 156 (.mov (.t 155)),
⟨some 157, .q (.mov (.t 1)), some (156, true), 0⟩,
⟨some 158, .e (.callf 14 [(.t 157)]), some (156, true), 0⟩,
⟨some 159, .m (.bslice 9 1 1 [dc (.str [])] [(0, 1, (.c (.one (dc (.str [116])))))]), some (156, true), 0⟩,
⟨some 160, .e (.callf 65 [(.t 158), (.t 159)]), some (156, true), 0⟩,
Q 161 (.pick (.t 156) (.t 160) (.c (.one (dc (.bool false))))),
Q 162 (.mov (.t 161)),
⟨some 163, .q (.mov (.t 11)), some (162, true), 0⟩,
⟨some 164, .q (.len .sl (.t 163)), some (162, true), 0⟩,
⟨some 165, .q (.bin .eql .scalar (.t 164) (.c (.one (dc (.int .i64 1))))), some (162, true), 0⟩,
Q 166 (.pick (.t 162) (.t 165) (.c (.one (dc (.bool false))))),
Q 167 (.mov (.t 166)),
⟨some 168, .q (.mov (.t 12)), some (167, true), 0⟩,
⟨some 169, .q (.bin .eql .scalar (.t 168) (.c (.one (dc (.int .i64 0))))), some (167, true), 0⟩,
Q 170 (.pick (.t 167) (.t 169) (.c (.one (dc (.bool false))))),
Q 171 (.mov (.t 170)),
⟨some 172, .q (.mov (.t 11)), some (171, true), 0⟩,
⟨some 173, .q (.iaddr 3 none (.t 172) (.c (.one (dc (.int .i64 0))))), some (171, true), 0⟩,
⟨some 174, .q (.faddr 2 (.t 173)), some (171, true), 0⟩,
⟨some 175, .q (.load false 1 (.t 174)), some (171, true), 0⟩,
⟨some 176, .q (.len .sl (.t 175)), some (171, true), 0⟩,
⟨some 177, .q (.bin .eql .scalar (.t 176) (.c (.one (dc (.int .i64 2))))), some (171, true), 0⟩,
Q 178 (.pick (.t 171) (.t 177) (.c (.one (dc (.bool false))))),
Q 179 (.mov (.t 178)),
⟨some 180, .q (.mov (.t 13)), some (179, true), 0⟩,
⟨some 181, .q (.len .sl (.t 180)), some (179, true), 0⟩,
⟨some 182, .q (.bin .eql .scalar (.t 181) (.c (.one (dc (.int .i64 2))))), some (179, true), 0⟩,
Q 183 (.pick (.t 179) (.t 182) (.c (.one (dc (.bool false))))),
Q 184 (.mov (.t 183)),
⟨some 185, .q (.mov (.t 14)), some (184, true), 0⟩,
⟨some 186, .q (.bin .eql .scalar (.t 185) (.c (.one (dc (.int .i64 0))))), some (184, true), 0⟩,
Q 187 (.pick (.t 184) (.t 186) (.c (.one (dc (.bool false))))),
Q 188 (.mov (.t 187)),
⟨some 189, .q (.mov (.t 13)), some (188, true), 0⟩,
⟨some 190, .q (.iaddr 3 none (.t 189) (.c (.one (dc (.int .i64 0))))), some (188, true), 0⟩,
⟨some 191, .q (.faddr 2 (.t 190)), some (188, true), 0⟩,
⟨some 192, .q (.load false 1 (.t 191)), some (188, true), 0⟩,
⟨some 193, .q (.len .sl (.t 192)), some (188, true), 0⟩,
⟨some 194, .q (.bin .eql .scalar (.t 193) (.c (.one (dc (.int .i64 3))))), some (188, true), 0⟩,
Q 195 (.pick (.t 188) (.t 194) (.c (.one (dc (.bool false))))),
Q 196 (.mov (.t 195)),
⟨some 197, .q (.mov (.t 16)), some (196, true), 0⟩,
⟨some 198, .q (.bin .eql .scalar (.t 197) (.c (.one (dc (.int .i64 16))))), some (196, true), 0⟩,
Q 199 (.pick (.t 196) (.t 198) (.c (.one (dc (.bool false))))),
Q 200 (.mov (.t 199)),
⟨some 201, .q (.mov (.t 18)), some (200, true), 0⟩,
⟨some 202, .q (.bin .eql .scalar (.t 201) (.c (.one (dc (.int .i64 18))))), some (200, true), 0⟩,
Q 203 (.pick (.t 200) (.t 202) (.c (.one (dc (.bool false))))),
Q 204 (.mov (.t 203)),
⟨some 205, .q (.mov (.t 19)), some (204, true), 0⟩,
⟨some 206, .q (.len .sl (.t 205)), some (204, true), 0⟩,
⟨some 207, .q (.bin .eql .scalar (.t 206) (.c (.one (dc (.int .i64 2))))), some (204, true), 0⟩,
Q 208 (.pick (.t 204) (.t 207) (.c (.one (dc (.bool false))))),
Q 209 (.mov (.t 208)),
⟨some 210, .q (.mov (.t 20)), some (209, true), 0⟩,
⟨some 211, .q (.bin .eql .scalar (.t 210) (.c (.one (dc (.int .i64 0))))), some (209, true), 0⟩,
Q 212 (.pick (.t 209) (.t 211) (.c (.one (dc (.bool false))))),
Q 213 (.mov (.t 212)),
⟨some 214, .q (.mov (.t 21)), some (213, true), 0⟩,
⟨some 215, .q (.bin .neq .ptr (.t 214) (.c (.one (dc (.nilp))))), some (213, true), 0⟩,
Q 216 (.pick (.t 213) (.t 215) (.c (.one (dc (.bool false))))),
Q 217 (.mov (.t 216)),
⟨some 218, .q (.mov (.t 22)), some (217, true), 0⟩,
⟨some 219, .q (.bin .eql .scalar (.t 218) (.c (.one (dc (.int .i64 0))))), some (217, true), 0⟩,
Q 220 (.pick (.t 217) (.t 219) (.c (.one (dc (.bool false))))),
Q 221 (.mov (.t 220)),
⟨some 222, .q (.mov (.t 21)), some (221, true), 0⟩,
⟨some 223, .e (.callf 11 [(.t 222)]), some (221, true), 0⟩,
⟨some 224, .q (.bin .eql .scalar (.t 223) (.c (.one (dc (.int .i64 3))))), some (221, true), 0⟩,
Q 225 (.pick (.t 221) (.t 224) (.c (.one (dc (.bool false))))),
Q 226 (.mov (.t 225)),
⟨some 227, .q (.mov (.t 23)), some (226, true), 0⟩,
⟨some 228, .q (.bin .eql .scalar (.t 227) (.c (.one (dc (.int .i64 1))))), some (226, true), 0⟩,
Q 229 (.pick (.t 226) (.t 228) (.c (.one (dc (.bool false))))),
Q 230 (.mov (.t 229)),
⟨some 231, .q (.mov (.t 24)), some (230, true), 0⟩,
⟨some 232, .q (.bin .eql .scalar (.t 231) (.c (.one (dc (.int .i64 0))))), some (230, true), 0⟩,
Q 233 (.pick (.t 230) (.t 232) (.c (.one (dc (.bool false))))),
Q 234 (.mov (.t 233)),
⟨some 235, .q (.mov (.t 26)), some (234, true), 0⟩,
⟨some 236, .q (.bin .eql .scalar (.t 235) (.c (.one (dc (.int .i64 15))))), some (234, true), 0⟩,
Q 237 (.pick (.t 234) (.t 236) (.c (.one (dc (.bool false))))),
Q 238 (.mov (.t 237)),
⟨some 239, .q (.mov (.t 1)), some (238, true), 0⟩,
⟨some 240, .e (.callf 11 [(.t 239)]), some (238, true), 0⟩,
⟨some 241, .q (.bin .eql .scalar (.t 240) (.c (.one (dc (.int .i64 3))))), some (238, true), 0⟩,
Q 242 (.pick (.t 238) (.t 241) (.c (.one (dc (.bool false))))),
Q 243 (.mov (.t 242)),
⟨some 244, .q (.mov (.t 1)), some (243, true), 0⟩,
⟨some 245, .e (.callf 12 [(.t 244)]), some (243, true), 0⟩,
⟨some 246, .q (.bin .eql .scalar (.t 245) (.c (.one (dc (.int .i64 9))))), some (243, true), 0⟩,
Q 247 (.pick (.t 243) (.t 246) (.c (.one (dc (.bool false))))),
Q 248 (.mov (.t 247)),
⟨some 249, .q (.mov (.t 1)), some (248, true), 0⟩,
⟨some 250, .e (.callf 13 [(.t 249)]), some (248, true), 0⟩,
⟨some 251, .q (.bin .eql .scalar (.t 250) (.c (.one (dc (.int .i64 9))))), some (248, true), 0⟩,
Q 252 (.pick (.t 248) (.t 251) (.c (.one (dc (.bool false))))),
Q 253 (.mov (.t 252)),
⟨some 254, .q (.mov (.t 1)), some (253, true), 0⟩,
⟨some 255, .e (.callf 17 [(.t 254)]), some (253, true), 0⟩,
⟨some 256, .q (.bin .eql .scalar (.t 255) (.c (.one (dc (.int .i64 2))))), some (253, true), 0⟩,
Q 257 (.pick (.t 253) (.t 256) (.c (.one (dc (.bool false))))),
Q 0 (.mov (.t 257))]) (
.ret)))
def y331 : AVal := (.tup [(.one (.s (.d (.sl [] false)))), (.one (.s (.d (.int .i64 (.ofNat 15)))))])
def y332 : AVal := (.v (.one (.s (.d (.int .i64 (.ofNat 2))))))
def y333 : AVal := (.v (.one (.s (.ro [(.sl [[(.int .i64 (.ofNat 2)), (.int .i64 (.ofNat 1)), (.int .u64 (.ofNat 0)), (.str [])], [(.int .i64 (.ofNat 5)), (.int .i64 (.ofNat 0)), (.int .u64 (.ofNat 0)), (.str [97])], [(.int .i64 (.ofNat 0)), (.int .i64 (.ofNat 0)), (.int .u64 (.ofNat 0)), (.str [])]] false)]))))
def y334 : AVal := (.v (.one (.s (.d (.sl [[(.int .i64 (.ofNat 2)), (.int .i64 (.ofNat 1)), (.int .u64 (.ofNat 0)), (.str [])], [(.int .i64 (.ofNat 5)), (.int .i64 (.ofNat 0)), (.int .u64 (.ofNat 0)), (.str [97])]] false)))))
def y335 : AVal := (.tup [(.one (.s (.d (.int .i64 (.ofNat 1))))), (.one (.s (.d (.int .i64 (.ofNat 0)))))])
def y336 : AVal := (.v (.one (.s (.d (.int .i64 (.ofNat 15))))))
def y337 : AVal := (.v (.one (.s (.ro [(.int .i64 (.ofNat 0)), (.int .i64 (.ofNat 9)), (.sl [[(.int .i64 (.ofNat 2)), (.int .i64 (.ofNat 1)), (.int .u64 (.ofNat 0)), (.str [])], [(.int .i64 (.ofNat 5)), (.int .i64 (.ofNat 0)), (.int .u64 (.ofNat 0)), (.str [97])]] false)]))))
def y338 : AVal := (.v (.one (.s (.d (.sl [[(.int .i64 (.ofNat 2)), (.int .i64 (.ofNat 1)), (.int .u64 (.ofNat 0)), (.str [])], [(.int .i64 (.ofNat 5)), (.int .i64 (.ofNat 0)), (.int .u64 (.ofNat 0)), (.str [97])], [(.int .i64 (.ofNat 0)), (.int .i64 (.ofNat 0)), (.int .u64 (.ofNat 0)), (.str [])]] false)))))
def y339 : AVal := (.v (.one (.s (.ro [(.sl [[(.int .i64 (.ofNat 2)), (.int .i64 (.ofNat 1)), (.int .u64 (.ofNat 0)), (.str [])], [(.int .i64 (.ofNat 5)), (.int .i64 (.ofNat 0)), (.int .u64 (.ofNat 0)), (.str [97])]] false)]))))
def y340 : AVal := (.v (.one (.s (.d (.sl [[(.str [116])]] false)))))
def y341 : AVal := (.v (.one (.s (.ro [(.int .i64 (.ofNat 0)), (.int .i64 (.ofNat 3)), (.sl [[(.int .i64 (.ofNat 2)), (.int .i64 (.ofNat 1)), (.int .u64 (.ofNat 0)), (.str [])], [(.int .i64 (.ofNat 5)), (.int .i64 (.ofNat 0)), (.int .u64 (.ofNat 0)), (.str [97])], [(.int .i64 (.ofNat 0)), (.int .i64 (.ofNat 0)), (.int .u64 (.ofNat 0)), (.str [])]] false)]))))
def f342 : Fr := ⟨(.node (some (.v (.one (.s (.d (.bool true)))))) (.node (some (.v (.one (.s (.ptr 1 0 0))))) (.node (some y23) (.node (some y96) (.node (some (.v (.one (.s (.d (.sl [] false)))))) (.node (some (.v (.one (.s (.ptr 1 0 0))))) (.node (some y110) (.node (some y331) (.node (some y332) .nil .nil) .nil) (.node (some y333) .nil .nil)) (.node (some (.v (.one (.s (.ptr 1 0 0))))) (.node (some (.v (.one (.s (.sl 1954 0 0 1 true))))) .nil .nil) (.node (some y192) .nil .nil))) (.node (some (.v (.one (.s (.ptr 1 0 0))))) (.node (some (.v (.one (.s (.ptr 1 0 0))))) (.node (some (.v (.one (.s (.d (.bool true)))))) .nil .nil) (.node (some (.v (.one (.s (.d (.bool true)))))) .nil .nil)) (.node (some y313) (.node (some y334) .nil .nil) (.node (some (.v (.one (.s (.ptr 1 0 0))))) .nil .nil)))) (.node (some y103) (.node (some y43) (.node (some (.v (.one (.s (.ptr 1 0 0))))) (.node (some (.v (.one (.s (.d (.bool true)))))) .nil .nil) (.node (some (.v (.one (.s (.d (.bool true)))))) .nil .nil)) (.node (some (.v (.one (.s (.ptr 1 0 0))))) (.node (some (.v (.one (.s (.d (.bool true)))))) .nil .nil) (.node (some y23) .nil .nil))) (.node (some y103) (.node (some (.v (.one (.s (.ptr 1 0 0))))) (.node (some (.v (.one (.s (.d (.bool true)))))) .nil .nil) (.node (some (.v (.one (.s (.d (.bool true)))))) .nil .nil)) (.node (some y335) (.node (some (.v (.one (.s (.d (.bool true)))))) .nil .nil) (.node (some (.v (.one (.s (.d (.bool true)))))) .nil .nil))))) (.node (some y140) (.node (some y160) (.node (some y23) (.node (some y133) (.node (some (.v (.one (.s (.d (.bool true)))))) .nil .nil) (.node (some (.v (.one (.s (.d (.bool true)))))) .nil .nil)) (.node (some y157) (.node (some y140) .nil .nil) (.node (some y103) .nil .nil))) (.node (some y97) (.node (some y147) (.node (some (.v (.one (.s (.d (.bool true)))))) .nil .nil) (.node (some (.v (.one (.s (.d (.bool true)))))) .nil .nil)) (.node (some (.v (.one (.s (.ptr 492 0 0))))) (.node (some (.v (.one (.s (.d (.bool true)))))) .nil .nil) (.node (some (.v (.one (.s (.d (.bool true)))))) .nil .nil)))) (.node (some (.v (.one (.s (.ptr 1 0 0))))) (.node (some y64) (.node (some y141) (.node (some (.v (.one (.s (.d (.bool true)))))) .nil .nil) (.node (some (.v (.one (.s (.d (.bool true)))))) .nil .nil)) (.node (some y161) (.node (some (.v (.one (.s (.d (.bool true)))))) .nil .nil) (.node (some y336) .nil .nil))) (.node (some (.v (.one (.s (.sl 409 0 0 1 true))))) (.node (some y152) (.node (some (.v (.one (.s (.d (.bool true)))))) .nil .nil) (.node (some (.v (.one (.s (.d (.bool true)))))) .nil .nil)) (.node (some (.v (.one (.s (.ptr 1 0 0))))) (.node (some (.v (.one (.s (.d (.bool true)))))) .nil .nil) (.node (some (.v (.one (.s (.d (.bool true)))))) .nil .nil)))))) (.node (some y23) (.node (some y111) (.node (some (.v (.one (.s (.d (.sl [] false)))))) (.node (some (.v (.one (.s (.sl 3 0 0 1 true))))) (.node (some (.v (.one (.s (.ptr 1 0 0))))) (.node (some y336) (.node (some (.v (.one (.s (.d (.bool true)))))) .nil .nil) .nil) (.node (some y192) .nil .nil)) (.node (some y142) (.node (some (.v (.one (.s (.d (.bool true)))))) .nil .nil) (.node (some (.v (.one (.s (.d (.bool true)))))) .nil .nil))) (.node (some y89) (.node (some y142) (.node (some y96) .nil .nil) (.node (some (.v (.one (.s (.d (.bool true)))))) .nil .nil)) (.node (some y170) (.node (some (.v (.one (.s (.d (.bool true)))))) .nil .nil) (.node (some (.v (.one (.s (.d (.bool true)))))) .nil .nil)))) (.node (some (.v (.one (.s (.d (.sl [] false)))))) (.node (some (.v (.one (.s (.ptr 1 0 0))))) (.node (some y142) (.node (some y23) .nil .nil) (.node (some y111) .nil .nil)) (.node (some y142) (.node (some (.v (.one (.s (.d (.bool true)))))) .nil .nil) (.node (some (.v (.one (.s (.d (.bool true)))))) .nil .nil))) (.node (some y112) (.node (some y142) (.node (some y111) .nil .nil) (.node (some (.v (.one (.s (.d (.bool true)))))) .nil .nil)) (.node (some y23) (.node (some y23) .nil .nil) (.node (some (.v (.one (.s (.ptr 1 0 0))))) .nil .nil))))) (.node (some y148) (.node (some (.v (.one (.s (.ptr 492 0 0))))) (.node (some y44) (.node (some (.v (.one (.s (.d (.bool false)))))) (.node (some y23) .nil .nil) (.node (some y153) .nil .nil)) (.node (some y111) (.node (some (.v (.one (.s (.d (.bool true)))))) .nil .nil) (.node (some (.v (.one (.s (.d (.bool true)))))) .nil .nil))) (.node (some (.v (.one (.s (.ptr 1 0 0))))) (.node (some y23) (.node (some y103) .nil .nil) (.node (some (.v (.one (.s (.d (.bool true)))))) .nil .nil)) (.node (some y335) (.node (some y332) .nil .nil) (.node (some y203) .nil .nil)))) (.node (some (.v (.one (.s (.d (.bool false)))))) (.node (some y65) (.node (some y23) (.node (some y89) .nil .nil) (.node (some y160) .nil .nil)) (.node (some y160) (.node (some y337) .nil .nil) (.node (some (.v (.one (.s (.d (.bool true)))))) .nil .nil))) (.node (some y113) (.node (some y153) (.node (some (.v (.one (.s (.ptr 1 0 0))))) .nil .nil) (.node (some (.v (.one (.s (.d (.bool true)))))) .nil .nil)) (.node (some y142) (.node (some y148) .nil .nil) (.node (some (.v (.one (.s (.d (.bool true)))))) .nil .nil))))))) (.node (some (.v (.one (.s (.ptr 2 0 0))))) (.node (some y23) (.node (some y103) (.node (some y153) (.node (some y24) (.node (some y111) (.node (some (.v (.one (.s (.d (.sl [] false)))))) (.node (some (.v (.one (.s (.d (.bool true)))))) .nil .nil) .nil) (.node (some y338) .nil .nil)) (.node (some y133) (.node (some (.v (.one (.s (.d (.bool true)))))) .nil .nil) (.node (some (.v (.one (.s (.d (.bool true)))))) .nil .nil))) (.node (some y90) (.node (some y133) (.node (some (.v (.one (.s (.d (.bool true)))))) .nil .nil) (.node (some (.v (.one (.s (.d (.bool true)))))) .nil .nil)) (.node (some (.v (.one (.s (.ptr 1 0 0))))) (.node (some y332) .nil .nil) (.node (some y192) .nil .nil)))) (.node (some y23) (.node (some y23) (.node (some y133) (.node (some (.v (.one (.s (.d (.bool true)))))) .nil .nil) (.node (some (.v (.one (.s (.d (.bool true)))))) .nil .nil)) (.node (some y133) (.node (some y23) .nil .nil) (.node (some (.v (.one (.s (.d (.bool true)))))) .nil .nil))) (.node (some (.v (.one (.s (.ptr 1 0 0))))) (.node (some y133) (.node (some (.v (.one (.s (.d (.bool true)))))) .nil .nil) (.node (some (.v (.one (.s (.d (.bool true)))))) .nil .nil)) (.node (some y103) (.node (some (.v (.one (.s (.d (.bool true)))))) .nil .nil) (.node (some (.v (.one (.s (.d (.bool true)))))) .nil .nil))))) (.node (some y23) (.node (some y23) (.node (some (.v (.one (.s (.ptr 1 0 0))))) (.node (some y103) (.node (some (.v (.one (.s (.d (.bool true)))))) .nil .nil) (.node (some (.v (.one (.s (.d (.bool true)))))) .nil .nil)) (.node (some (.v (.one (.s (.d (.sl [] false)))))) (.node (some y103) .nil .nil) (.node (some (.v (.one (.s (.d (.bool true)))))) .nil .nil))) (.node (some y96) (.node (some y148) (.node (some (.v (.one (.s (.d (.bool true)))))) .nil .nil) (.node (some (.v (.one (.s (.d (.bool true)))))) .nil .nil)) (.node (some y23) (.node (some y148) .nil .nil) (.node (some (.v (.one (.s (.ptr 1 0 0))))) .nil .nil)))) (.node (some (.v (.one (.s (.ptr 1 0 0))))) (.node (some (.v (.one (.s (.sl 211 0 0 2 true))))) (.node (some y140) (.node (some (.v (.one (.s (.d (.bool true)))))) .nil .nil) (.node (some (.v (.one (.s (.d (.bool true)))))) .nil .nil)) (.node (some y162) (.node (some y140) .nil .nil) (.node (some (.v (.one (.s (.d (.bool true)))))) .nil .nil))) (.node (some y114) (.node (some (.v (.one (.s (.d (.sl [] false)))))) (.node (some (.v (.one (.s (.d (.bool true)))))) .nil .nil) (.node (some (.v (.one (.s (.d (.bool true)))))) .nil .nil)) (.node (some y133) (.node (some (.v (.one (.s (.d (.bool true)))))) .nil .nil) (.node (some (.v (.one (.s (.d (.bool true)))))) .nil .nil)))))) (.node (some y89) (.node (some y133) (.node (some y111) (.node (some y25) (.node (some y133) (.node (some y23) .nil .nil) (.node (some (.v (.one (.s (.d (.bool true)))))) .nil .nil)) (.node (some y143) (.node (some (.v (.one (.s (.d (.bool true)))))) .nil .nil) (.node (some (.v (.one (.s (.d (.bool true)))))) .nil .nil))) (.node (some (.v (.one (.s (.ptr 1 0 0))))) (.node (some y143) (.node (some (.v (.one (.s (.d (.bool true)))))) .nil .nil) (.node (some y23) .nil .nil)) (.node (some y313) (.node (some (.v (.one (.s (.d (.bool true)))))) .nil .nil) (.node (some (.v (.one (.s (.d (.bool true)))))) .nil .nil)))) (.node (some y336) (.node (some y66) (.node (some y143) (.node (some (.v (.one (.s (.d (.bool true)))))) .nil .nil) (.node (some (.v (.one (.s (.d (.bool true)))))) .nil .nil)) (.node (some y143) (.node (some (.v (.one (.s (.d (.bool true)))))) .nil .nil) (.node (some (.v (.one (.s (.d (.bool true)))))) .nil .nil))) (.node (some y17) (.node (some y143) (.node (some (.v (.one (.s (.d (.bool true)))))) .nil .nil) (.node (some y23) .nil .nil)) (.node (some y331) (.node (some (.v (.one (.s (.d (.bool true)))))) .nil .nil) (.node (some y203) .nil .nil))))) (.node (some y23) (.node (some y23) (.node (some (.v (.one (.s (.sl 78 0 0 1 true))))) (.node (some y141) (.node (some (.v (.one (.s (.d (.bool true)))))) .nil .nil) (.node (some (.v (.one (.s (.d (.bool true)))))) .nil .nil)) (.node (some y162) (.node (some (.v (.one (.s (.d (.bool true)))))) .nil .nil) (.node (some (.v (.one (.s (.d (.bool true)))))) .nil .nil))) (.node (some y104) (.node (some y152) (.node (some (.v (.one (.s (.d (.bool true)))))) .nil .nil) (.node (some (.v (.one (.s (.ptr 492 0 0))))) .nil .nil)) (.node (some (.v (.one (.s (.ptr 1 0 0))))) (.node (some (.v (.one (.s (.d (.bool true)))))) .nil .nil) (.node (some (.v (.one (.s (.d (.bool true)))))) .nil .nil)))) (.node (some y17) (.node (some y23) (.node (some y147) (.node (some (.v (.one (.s (.d (.bool true)))))) .nil .nil) (.node (some y332) .nil .nil)) (.node (some y23) (.node (some y339) .nil .nil) (.node (some (.v (.one (.s (.d (.bool true)))))) .nil .nil))) (.node (some (.v (.one (.s (.sl 412 0 0 2 true))))) (.node (some y157) (.node (some y340) .nil .nil) (.node (some (.v (.one (.s (.ptr 492 0 0))))) .nil .nil)) (.node (some y143) (.node (some y341) .nil .nil) (.node (some (.v (.one (.s (.ptr 1 0 0))))) .nil .nil)))))))), [], none⟩
def x343 : AObj := (.row 96 4 0 [(.s (.d (.int .i64 (.ofNat 3)))), (.s (.d (.int .i64 (.ofNat 9)))), (.s (.d (.int .i64 (.ofNat 9)))), (.s (.mp 222))])
def x344 : AObj := (.map .str [⟨[(.str [3, 128, 0, 0, 0, 0, 0, 0, 1, 0])], 0, (.one (.s (.d (.sl [[(.int .i64 (.ofNat 9)), (.int .i64 (.ofNat 1099511627776)), (.int .i64 (.ofNat 0)), (.int .i64 (.ofNat 3)), (.sl [[(.int .i64 (.ofNat 2)), (.int .i64 (.ofNat 1)), (.int .u64 (.ofNat 0)), (.str [])], [(.int .i64 (.ofNat 5)), (.int .i64 (.ofNat 0)), (.int .u64 (.ofNat 0)), (.str [97])]] false)], [(.int .i64 (.ofNat 9)), (.int .i64 (.ofNat 1099511627776)), (.int .i64 (.ofNat 3)), (.int .i64 (.ofNat 9)), (.sl [[(.int .i64 (.ofNat 2)), (.int .i64 (.ofNat 1)), (.int .u64 (.ofNat 0)), (.str [])], [(.int .i64 (.ofNat 5)), (.int .i64 (.ofNat 0)), (.int .u64 (.ofNat 0)), (.str [98])]] false)]] false))))⟩] 1)
def x345 : AObj := (.row 3 1 0 [(.s (.d (.int .i64 (.ofNat 9))))])
def x346 : AObj := (.row 9 1 0 [(.s (.d (.str [116])))])
def s347 : St := ⟨(.node (some x9) (.node (some x343) (.node (some x28) (.node none (.node (some x29) (.node none (.node none (.node none (.node none (.node none (.node (some x229) .nil .nil) .nil) (.node (some x196) .nil (.node (some x230) .nil .nil))) (.node none .nil (.node none (.node (some x182) .nil .nil) .nil))) .nil) (.node none .nil (.node (some x69) (.node none .nil (.node (some x231) .nil .nil)) .nil))) (.node none (.node (some x47) (.node none .nil (.node none .nil (.node none .nil (.node (some x232) .nil .nil)))) .nil) (.node none (.node none (.node none (.node none .nil (.node (some x233) .nil .nil)) .nil) (.node none .nil (.node (some x234) .nil .nil))) .nil))) (.node none (.node none (.node none (.node none .nil (.node none (.node (some x182) .nil .nil) .nil)) (.node none (.node none (.node none .nil (.node (some x196) .nil .nil)) .nil) (.node none (.node none (.node (some x235) .nil .nil) .nil) .nil))) (.node none (.node none .nil (.node (some x116) .nil .nil)) (.node (some x344) (.node none (.node (some x236) .nil .nil) (.node none (.node (some x196) .nil .nil) .nil)) (.node none (.node none .nil (.node (some x237) .nil .nil)) (.node (some x238) .nil .nil))))) (.node none (.node none (.node none (.node none (.node (some x205) .nil .nil) (.node (some x239) .nil .nil)) .nil) (.node none .nil (.node (some x117) .nil .nil))) (.node none (.node none .nil (.node (some x118) .nil .nil)) (.node none (.node none (.node none (.node (some x240) .nil .nil) .nil) (.node (some x196) .nil .nil)) (.node (some x194) .nil .nil)))))) (.node (some x30) (.node none (.node none (.node none (.node none (.node none (.node none (.node (some x241) .nil .nil) .nil) .nil) (.node none (.node (some x242) .nil .nil) .nil)) (.node none (.node none .nil (.node none .nil (.node (some x243) .nil .nil))) (.node none (.node none (.node (some x244) .nil .nil) .nil) .nil))) (.node (some x48) (.node none .nil (.node none (.node (some x245) .nil .nil) .nil)) (.node none (.node none .nil (.node none (.node (some x246) .nil .nil) .nil)) (.node none (.node none (.node (some x247) .nil .nil) .nil) .nil)))) (.node none (.node none (.node (some x49) .nil (.node (some x92) .nil .nil)) (.node (some x71) (.node (some x72) .nil .nil) .nil)) (.node none (.node none (.node none (.node (some x182) (.node (some x248) .nil .nil) .nil) .nil) (.node (some x70) .nil (.node (some x249) .nil .nil))) .nil))) (.node none (.node none (.node none .nil (.node none .nil (.node (some x117) (.node none (.node (some x250) .nil .nil) (.node (some x182) .nil .nil)) (.node (some x182) .nil .nil)))) (.node none (.node none (.node none (.node none .nil (.node (some x182) .nil .nil)) (.node none .nil (.node (some x19) .nil .nil))) (.node (some x119) .nil .nil)) (.node (some x73) (.node none (.node (some x251) .nil .nil) .nil) (.node (some x252) .nil .nil)))) (.node none (.node none (.node none (.node none (.node none (.node (some x233) .nil .nil) .nil) (.node (some x253) .nil .nil)) .nil) (.node (some x74) (.node none .nil (.node (some (.dfb true)) .nil .nil)) .nil)) (.node (some x50) (.node none .nil (.node none (.node (some x196) .nil .nil) .nil)) .nil))))) (.node none (.node (some x31) (.node (some x28) (.node none (.node none (.node none (.node none (.node none (.node (some x196) .nil .nil) .nil) (.node (some x254) .nil .nil)) (.node none (.node (some x182) .nil .nil) (.node none (.node (some x198) .nil .nil) .nil))) (.node none (.node none .nil (.node none .nil (.node (some x19) .nil .nil))) .nil)) (.node (some x51) (.node none .nil (.node none (.node (some x196) .nil .nil) (.node none .nil (.node (some x119) .nil .nil)))) (.node none .nil (.node none (.node none (.node (some x182) .nil .nil) .nil) .nil)))) (.node (some x32) .nil (.node none (.node none .nil (.node none .nil (.node (some x196) .nil .nil))) .nil))) (.node none (.node none (.node none (.node none .nil (.node none (.node (some x255) .nil .nil) .nil)) (.node none (.node none (.node none .nil (.node (some x256) .nil .nil)) .nil) (.node none (.node none (.node (some x196) .nil .nil) (.node (some x182) .nil .nil)) (.node (some x182) .nil .nil)))) (.node none (.node none (.node none (.node none .nil (.node (some x244) .nil .nil)) .nil) (.node (some x120) .nil .nil)) (.node (some x75) (.node none (.node (some x196) .nil .nil) (.node none (.node (some x257) .nil .nil) .nil)) (.node (some x258) .nil .nil)))) (.node none (.node (some x52) (.node none (.node (some x76) (.node none (.node (some x182) .nil .nil) .nil) (.node (some x196) .nil .nil)) (.node (some x19) .nil (.node none (.node (some x259) .nil .nil) .nil))) (.node (some x77) (.node none .nil (.node none .nil (.node (some x243) .nil .nil))) .nil)) (.node none (.node none .nil (.node none (.node (some x51) .nil .nil) .nil)) (.node none (.node none .nil (.node (some x260) .nil .nil)) .nil))))) (.node (some x33) (.node none (.node (some x32) (.node none (.node none .nil (.node none (.node (some (.dfb true)) .nil .nil) .nil)) (.node none .nil (.node none (.node none (.node (some x261) .nil .nil) .nil) .nil))) (.node (some x53) (.node none .nil (.node (some x31) .nil .nil)) (.node none (.node none .nil (.node none (.node (some x262) .nil .nil) .nil)) (.node none (.node none .nil (.node (some x196) .nil .nil)) (.node (some x196) .nil .nil))))) (.node none (.node none (.node none (.node none (.node (some x196) .nil .nil) (.node none .nil (.node (some x19) .nil .nil))) (.node (some x106) .nil .nil)) .nil) (.node none (.node none (.node none (.node (some x214) .nil .nil) .nil) (.node (some x121) .nil .nil)) (.node none .nil (.node (some x196) .nil .nil))))) (.node none (.node none (.node none .nil (.node none .nil (.node none (.node none .nil (.node (some x198) .nil .nil)) (.node (some x263) .nil .nil)))) (.node none (.node none (.node (some x78) (.node none .nil (.node (some x182) .nil .nil)) .nil) .nil) (.node none .nil (.node (some x187) .nil .nil)))) (.node none (.node none .nil (.node (some x79) (.node none .nil (.node (some x182) .nil .nil)) (.node (some x122) .nil (.node none (.node (some x240) .nil .nil) .nil)))) (.node none (.node none .nil (.node none (.node (some x264) .nil .nil) .nil)) (.node none .nil (.node none (.node (some x84) .nil (.node (some x196) .nil .nil)) (.node (some x265) .nil .nil))))))))) (.node (some x19) (.node (some x34) (.node none (.node (some x28) (.node none (.node none (.node none (.node (some x50) (.node none (.node (some x182) .nil .nil) .nil) (.node (some x233) .nil .nil)) (.node none .nil (.node none (.node (some x196) .nil .nil) .nil))) .nil) (.node none (.node none .nil (.node (some x123) (.node (some x182) .nil .nil) (.node none .nil (.node (some x345) .nil .nil)))) (.node none (.node none (.node none (.node (some x19) .nil .nil) .nil) (.node (some x266) .nil .nil)) .nil))) (.node none .nil (.node none (.node none (.node none (.node none .nil (.node (some x267) .nil .nil)) .nil) (.node none .nil (.node (some x182) (.node (some x19) .nil .nil) .nil))) .nil))) (.node none (.node none (.node none (.node none .nil (.node none (.node (some x196) .nil .nil) .nil)) (.node none (.node none (.node none .nil (.node (some x247) .nil .nil)) .nil) (.node none (.node none (.node (some x182) .nil .nil) (.node (some x232) .nil .nil)) .nil))) (.node none .nil (.node (some x80) (.node none (.node (some x182) .nil .nil) (.node none (.node (some x214) .nil .nil) .nil)) .nil))) (.node none (.node (some x54) (.node none (.node (some x76) .nil (.node (some x196) .nil .nil)) (.node none .nil (.node none (.node (some x196) .nil .nil) .nil))) (.node none .nil (.node (some x9) .nil .nil))) (.node none (.node none .nil (.node (some x124) .nil .nil)) (.node none (.node none (.node none (.node (some x244) .nil .nil) .nil) (.node (some x268) .nil .nil)) (.node none (.node (some x51) .nil .nil) .nil)))))) (.node none (.node none (.node none (.node none (.node none .nil (.node none (.node (some x269) .nil .nil) .nil)) (.node none .nil (.node (some x39) (.node none (.node (some x265) .nil .nil) .nil) .nil))) (.node (some x55) .nil (.node none (.node none (.node (some x220) .nil .nil) (.node none (.node (some x182) .nil .nil) .nil)) (.node none (.node none (.node (some x270) .nil .nil) (.node (some x182) .nil .nil)) (.node (some x182) .nil .nil))))) (.node (some x35) (.node (some x56) (.node (some x50) (.node none (.node (some x182) .nil .nil) .nil) (.node (some x99) .nil .nil)) (.node (some x81) (.node (some x50) .nil .nil) .nil)) (.node none (.node none (.node none (.node (some x196) (.node (some x271) .nil .nil) .nil) .nil) (.node (some x125) .nil .nil)) (.node none .nil (.node (some x182) .nil (.node none (.node (some x244) .nil .nil) .nil)))))) (.node none (.node none (.node none .nil (.node none .nil (.node none (.node none .nil (.node (some x196) .nil .nil)) (.node (some x196) .nil .nil)))) (.node none (.node none (.node none (.node none .nil (.node (some x235) .nil .nil)) .nil) .nil) (.node none .nil (.node (some x207) .nil .nil)))) (.node none (.node none (.node none (.node none (.node none (.node (some x272) .nil .nil) .nil) .nil) (.node (some x126) .nil .nil)) (.node none (.node none .nil (.node (some x273) .nil .nil)) (.node (some x122) .nil (.node none (.node (some x19) .nil .nil) .nil)))) (.node none (.node none .nil (.node none (.node (some x274) .nil .nil) .nil)) .nil))))) (.node none (.node none (.node (some x36) (.node none (.node none (.node none (.node none (.node none (.node (some x214) .nil .nil) .nil) .nil) (.node none (.node (some x70) .nil .nil) (.node none (.node (some x275) .nil .nil) .nil))) (.node none (.node none .nil (.node none .nil (.node (some x276) .nil .nil))) .nil)) (.node (some x57) (.node none .nil (.node none (.node (some x277) .nil .nil) (.node none .nil (.node (some x346) .nil .nil)))) (.node none .nil (.node none (.node none (.node (some x196) .nil .nil) .nil) .nil)))) (.node (some x9) .nil (.node none (.node none (.node none (.node none (.node (some x196) .nil .nil) .nil) .nil) (.node (some x127) .nil (.node (some x198) .nil .nil))) .nil))) (.node none (.node none (.node none (.node none .nil (.node none (.node (some x278) .nil .nil) .nil)) (.node none (.node none (.node none (.node (some x19) .nil .nil) .nil) .nil) (.node none (.node none (.node (some x233) .nil .nil) (.node (some x279) .nil .nil)) (.node (some x280) .nil .nil)))) (.node none (.node none (.node none (.node none .nil (.node (some x246) .nil .nil)) .nil) (.node (some x128) .nil .nil)) (.node (some x73) (.node none (.node (some x231) .nil .nil) .nil) (.node (some x182) .nil .nil)))) (.node none (.node (some x58) (.node none (.node (some x82) (.node none (.node (some x196) .nil .nil) .nil) (.node (some x281) .nil .nil)) (.node none .nil (.node none (.node (some x282) .nil .nil) .nil))) (.node none .nil (.node (some x129) .nil .nil))) (.node none (.node none .nil (.node none (.node (some x196) .nil .nil) .nil)) .nil)))) (.node (some x37) (.node none (.node none (.node none (.node none .nil (.node none (.node (some x283) .nil .nil) .nil)) (.node none (.node none (.node none .nil (.node (some x182) .nil .nil)) .nil) (.node none (.node none (.node (some x182) .nil .nil) .nil) (.node none (.node (some x19) .nil .nil) .nil)))) (.node (some x53) (.node none (.node (some x83) .nil .nil) .nil) (.node (some x84) (.node none (.node (some (.dfb true)) .nil .nil) (.node none (.node (some x182) .nil .nil) .nil)) (.node none (.node none .nil (.node (some x233) .nil .nil)) (.node (some x233) .nil .nil))))) (.node (some x38) (.node (some x59) (.node none (.node none (.node (some x208) .nil .nil) .nil) .nil) (.node none (.node none .nil (.node (some x239) .nil .nil)) .nil)) (.node none (.node none (.node none (.node (some x215) .nil .nil) .nil) (.node (some x118) .nil .nil)) (.node none (.node none (.node none (.node (some x19) .nil .nil) .nil) (.node (some x196) .nil .nil)) (.node (some x198) .nil .nil))))) (.node (some x60) (.node none (.node (some x53) (.node none .nil (.node none (.node none (.node (some x244) .nil .nil) .nil) (.node none .nil (.node (some x243) .nil .nil)))) (.node none (.node (some x78) .nil .nil) (.node none (.node none .nil (.node (some x284) .nil .nil)) (.node (some x285) .nil .nil)))) (.node none (.node none (.node none (.node none .nil (.node (some x196) .nil .nil)) .nil) (.node none .nil (.node (some x286) .nil .nil))) .nil)) (.node none (.node none .nil (.node (some x85) (.node none .nil (.node (some x196) .nil .nil)) (.node none .nil (.node none (.node (some x244) .nil .nil) .nil)))) (.node none .nil (.node none .nil (.node none (.node (some x182) .nil (.node (some x287) .nil .nil)) (.node (some x182) .nil .nil)))))))))), 1955, 0⟩
theorem t330 : PC (evCall badP allP A 1000000 199) 1000000 k329 f319 s312 .ret f342 s347 := fun K => by kernel_rfl
def k348 : ACode := .seq k327 k329
theorem t349 : PC (evCall badP allP A 1000000 199) 1000000 k348 f163 s130 .ret f342 s347 := PC.seq t328 t330
def k350 : ACode := .seq k167 k348
theorem t351 : PC (evCall badP allP A 1000000 199) 1000000 k350 f158 s130 .ret f342 s347 := PC.seq t168 t349
def k352 : ACode := .seq k155 k350
theorem t353 : PC (evCall badP allP A 1000000 199) 1000000 k352 f154 s130 .ret f342 s347 := PC.seq t156 t351
def k354 : ACode := .seq k150 k352
theorem t355 : PC (evCall badP allP A 1000000 199) 1000000 k354 f149 s130 .ret f342 s347 := PC.seq t151 t353
def k356 : ACode := .seq k145 k354
theorem t357 : PC (evCall badP allP A 1000000 199) 1000000 k356 f144 s130 .ret f342 s347 := PC.seq t146 t355
def k358 : ACode := .seq k138 k356
theorem t359 : PC (evCall badP allP A 1000000 199) 1000000 k358 f137 s130 .ret f342 s347 := PC.seq t139 t357
def k360 : ACode := .seq k135 k358
theorem t361 : PC (evCall badP allP A 1000000 199) 1000000 k360 f134 s130 .ret f342 s347 := PC.seq t136 t359
def k362 : ACode := .seq k131 k360
theorem t363 : PC (evCall badP allP A 1000000 199) 1000000 k362 f115 s130 .ret f342 s347 := PC.seq t132 t361
def k364 : ACode := .seq k108 k362
theorem t365 : PC (evCall badP allP A 1000000 199) 1000000 k364 f105 s107 .ret f342 s347 := PC.seq t109 t363
def k366 : ACode := .seq k101 k364
theorem t367 : PC (evCall badP allP A 1000000 199) 1000000 k366 f98 s100 .ret f342 s347 := PC.seq t102 t365
def k368 : ACode := .seq k94 k366
theorem t369 : PC (evCall badP allP A 1000000 199) 1000000 k368 f91 s93 .ret f342 s347 := PC.seq t95 t367
def k370 : ACode := .seq k87 k368
theorem t371 : PC (evCall badP allP A 1000000 199) 1000000 k370 f67 s86 .ret f342 s347 := PC.seq t88 t369
def k372 : ACode := .seq k62 k370
theorem t373 : PC (evCall badP allP A 1000000 199) 1000000 k372 f45 s61 .ret f342 s347 := PC.seq t63 t371
def k374 : ACode := .seq k41 k372
theorem t375 : PC (evCall badP allP A 1000000 199) 1000000 k374 f26 s40 .ret f342 s347 := PC.seq t42 t373
def k376 : ACode := .seq k21 k374
theorem t377 : PC (evCall badP allP A 1000000 199) 1000000 k376 f18 s20 .ret f342 s347 := PC.seq t22 t375
def k378 : ACode := .seq k15 k376
theorem t379 : PC (evCall badP allP A 1000000 199) 1000000 k378 f14 s11 .ret f342 s347 := PC.seq t16 t377
def k380 : ACode := .seq k12 k378
theorem t381 : PC (evCall badP allP A 1000000 199) 1000000 k380 f8 s11 .ret f342 s347 := PC.seq t13 t379
def k382 : ACode := .seq k6 k380
theorem t383 : PC (evCall badP allP A 1000000 199) 1000000 k382 f5 s4 .ret f342 s347 := PC.seq t7 t381
def k384 : ACode := .seq k1 k382
theorem t385 : PC (evCall badP allP A 1000000 199) 1000000 k384 f3 s4 .ret f342 s347 := PC.seq t2 t383
def g386 : List Vl := []
theorem cc387k : a20.code = k384 := by kernel_rfl
theorem cc387 : PK A 1000000 200 20 g386 s4 (.v (.one (.s (.d (.bool true))))) s4 := PK.mk (af := a20) (K := k384) (f := f3) (s0 := s4) (by kernel_rfl) cc387k (by kernel_rfl) (by kernel_rfl) t385 (fun K PN => by kernel_rfl)
theorem run_known : PK A 1000000 200 20 [] St.zero (dv (.bool true)) St.zero := cc387
end Go.Proofs.YtcdebohjjkffkaaGreat.t
