/- A closed run, printed by program: piece by piece. -/
import Derived.Test.YtcdebohjjkffkaaGreatRnZ
namespace Go.Proofs.YtcdebohjjkffkaaGreat.tr
open Go Go.Rf
set_option maxRecDepth 1000000
def k1 : ACode := .region [Q 0 (.mov (cb false))]
def f3 : Fr := ⟨.nil, [], none⟩
def s4 : St := ⟨.nil, 0, 0⟩
def f5 : Fr := ⟨(lf (vb false)), [], none⟩
theorem t2 : PC (evO badP allP Ot A 1000000 199) 1000000 k1 f3 s4 .normal f5 s4 := fun K => by kernel_rfl
def k6 : ACode := .region [E 22 (.callf 84 [(ci 300), (ci 100)]),
V 21 22,
Q 23 (.extract 0 (.t 21)),
Q 24 (.extract 1 (.t 21)),
V 1 23,
V 2 24]
def y8 : AVal := (.tup [(.one (.s (.ptr 2 0 0))), (.one (xi 0))])
def m9 : PM AVal := (nd (vb false) (nd (vp 2 0 0) (nn (nn .nil (lf (vp 2 0 0))) .nil) (nn .nil (nn (lf y8) .nil))) (nd (vi 0) (nn (nn .nil (lf (vi 0))) .nil) (nn .nil (nn (lf y8) .nil))))
def f10 : Fr := ⟨m9, [], none⟩
def h11 : Dat := (.str [3, 83, 1, 0, 186, 120, 160, 136, 0, 0, 0, 0, 0, 0, 0, 0, 0, 0, 0, 0, 0, 0, 0, 0, 0, 0, 0, 0, 0, 0, 0, 0, 0, 0, 0, 0, 0, 0, 0, 0, 0, 0, 0, 0, 0, 0, 0, 0, 0, 0, 0, 0, 0, 0, 0, 0, 0, 0, 0, 0, 0, 0, 0, 0, 0, 0, 0, 0, 0, 0, 0, 0, 0, 0, 0, 0, 0, 0, 0, 0, 0, 0, 0, 0, 0, 0, 0, 0, 0, 0, 0, 0, 0, 0, 0, 0, 0, 0, 0, 0, 0, 0, 0, 0, 0, 0, 0, 0, 0, 0, 0, 0, 0, 0, 0, 0, 0, 0, 0, 0, 0, 0, 0, 0, 0, 0, 0, 0])
def h12 : Dat := (.str [15, 76, 1, 0, 0, 194, 68, 38, 0, 2, 0, 1, 2, 1, 1, 82, 246, 98, 231, 199, 0, 0, 0, 0, 0, 0, 0, 0, 0, 0, 0, 0, 0, 0, 0, 0, 0, 0, 0, 0, 0, 0, 0, 0, 0, 0, 0, 0, 0, 0, 0, 0, 0, 0, 0, 0, 0, 0, 0, 0, 0, 0, 0, 0, 0, 0, 0, 0, 0, 0, 0, 0, 0, 0, 0, 0, 0, 0, 0, 0, 0, 0, 0, 0, 0, 0, 0, 0, 0, 0, 0, 0, 0, 0, 0, 0, 0, 0, 0, 0, 0, 0, 0, 0, 0, 0, 0, 0, 0, 0, 0, 0, 0, 0, 0, 0, 0, 0, 0, 0, 0, 0, 0, 0, 0, 0, 0, 0])
def h13 : Dat := (.str [2, 0, 0, 0, 0, 0, 0, 0, 0, 0, 0, 0, 0, 0, 0, 0, 0, 0, 0, 0, 0, 0, 0, 0, 0, 0, 0, 0, 0, 0, 0, 0, 0, 0, 0, 0, 0, 0, 0, 0, 0, 0, 0, 0, 0, 0, 0, 0, 0, 0, 0, 0, 0, 0, 0, 0, 0, 0, 0, 0, 0, 0, 0, 0, 0, 0, 0, 0, 0, 0, 0, 0, 0, 0, 0, 0, 0, 0, 0, 0, 0, 0, 0, 0, 0, 0, 0, 0, 0, 0, 0, 0, 0, 0, 0, 0, 0, 0, 0, 0, 0, 0, 0, 0, 0, 0, 0, 0, 0, 0, 0, 0, 0, 0, 0, 0, 0, 0, 0, 0, 0, 0, 0, 0, 0, 0, 0, 0])
def h14 : Dat := (.str [82, 0, 0, 0, 0, 0, 0, 0, 0, 0, 0, 0, 0, 0, 0, 0, 0, 0, 0, 0, 0, 0, 0, 0, 0, 0, 0, 0, 0, 0, 0, 0, 0, 0, 0, 0, 0, 0, 0, 0, 0, 0, 0, 0, 0, 0, 0, 0, 0, 0, 0, 0, 0, 0, 0, 0, 0, 0, 0, 0, 0, 0, 0, 0, 0, 0, 0, 0, 0, 0, 0, 0, 0, 0, 0, 0, 0, 0, 0, 0, 0, 0, 0, 0, 0, 0, 0, 0, 0, 0, 0, 0, 0, 0, 0, 0, 0, 0, 0, 0, 0, 0, 0, 0, 0, 0, 0, 0, 0, 0, 0, 0, 0, 0, 0, 0, 0, 0, 0, 0, 0, 0, 0, 0, 0, 0, 0, 0])
def h15 : Dat := (.str [3, 83, 2, 2, 85, 74, 131, 77, 0, 0, 0, 0, 0, 0, 0, 0, 0, 0, 0, 0, 0, 0, 0, 0, 0, 0, 0, 0, 0, 0, 0, 0, 0, 0, 0, 0, 0, 0, 0, 0, 0, 0, 0, 0, 0, 0, 0, 0, 0, 0, 0, 0, 0, 0, 0, 0, 0, 0, 0, 0, 0, 0, 0, 0, 0, 0, 0, 0, 0, 0, 0, 0, 0, 0, 0, 0, 0, 0, 0, 0, 0, 0, 0, 0, 0, 0, 0, 0, 0, 0, 0, 0, 0, 0, 0, 0, 0, 0, 0, 0, 0, 0, 0, 0, 0, 0, 0, 0, 0, 0, 0, 0, 0, 0, 0, 0, 0, 0, 0, 0, 0, 0, 0, 0, 0, 0, 0, 0])
def x16 : AObj := (.map (.int .i64) [⟨[(.int .i64 (.ofNat 1))], 0, (.one (.s (.d h11)))⟩, ⟨[(.int .i64 (.ofNat 2))], 1, (.one (.s (.d h12)))⟩, ⟨[(.int .i64 (.ofNat 100))], 2, (.one (.s (.d h13)))⟩, ⟨[(.int .i64 (.ofNat 101))], 3, (.one (.s (.d h14)))⟩, ⟨[(.int .i64 (.ofNat 0))], 4, (.one (.s (.d h15)))⟩] 5)
def x17 : AObj := (.row 216 7 0 [(xi 300), (.s (.mp 0)), (.s (.d (.sl [] true))), (xi 5), (xi 4), (.s (.d (.bool false))), (.s (.d (.int .i64 (.negSucc 8))))])
def x18 : AObj := (.row 263 5 0 [(.s (.ptr 1 0 0)), (.s (.ptr 17 0 0)), (xi 100), (.s (.mp 254)), (.s (.d (.bool false)))])
def e19 : Cell := (.fn (.func 203) 203 [] [⟨false, [(.ptr 458 0 0)]⟩, ⟨false, [(.ptr 465 0 0)]⟩])
def e20 : Cell := (.fn (.func 205) 205 [⟨false, [(.ptr 17 0 0)]⟩] [])
def e21 : Cell := (.fn (.func 206) 206 [] [⟨false, [(.ptr 458 0 0)]⟩])
def e22 : Cell := (.fn (.func 208) 208 [⟨false, [(.ptr 255 0 0)]⟩] [])
def x23 : AObj := (.row 84 1 0 [e19, e20, e21, e22])
def x24 : AObj := (.row 5 1 0 [(.s (.d (.int .u8 (.ofNat 0)))), (.s (.d (.int .u8 (.ofNat 0)))), (.s (.d (.int .u8 (.ofNat 0)))), (.s (.d (.int .u8 (.ofNat 0)))), (.s (.d (.int .u8 (.ofNat 0)))), (.s (.d (.int .u8 (.ofNat 0)))), (.s (.d (.int .u8 (.ofNat 0)))), (.s (.d (.int .u8 (.ofNat 0)))), (.s (.d (.int .u8 (.ofNat 0)))), (.s (.d (.int .u8 (.ofNat 0)))), (.s (.d (.int .u8 (.ofNat 0)))), (.s (.d (.int .u8 (.ofNat 0)))), (.s (.d (.int .u8 (.ofNat 0)))), (.s (.d (.int .u8 (.ofNat 0)))), (.s (.d (.int .u8 (.ofNat 0)))), (.s (.d (.int .u8 (.ofNat 0)))), (.s (.d (.int .u8 (.ofNat 0)))), (.s (.d (.int .u8 (.ofNat 0)))), (.s (.d (.int .u8 (.ofNat 0)))), (.s (.d (.int .u8 (.ofNat 0)))), (.s (.d (.int .u8 (.ofNat 0)))), (.s (.d (.int .u8 (.ofNat 0)))), (.s (.d (.int .u8 (.ofNat 0)))), (.s (.d (.int .u8 (.ofNat 0)))), (.s (.d (.int .u8 (.ofNat 0)))), (.s (.d (.int .u8 (.ofNat 0)))), (.s (.d (.int .u8 (.ofNat 0)))), (.s (.d (.int .u8 (.ofNat 0)))), (.s (.d (.int .u8 (.ofNat 0)))), (.s (.d (.int .u8 (.ofNat 0)))), (.s (.d (.int .u8 (.ofNat 0)))), (.s (.d (.int .u8 (.ofNat 0)))), (.s (.d (.int .u8 (.ofNat 0)))), (.s (.d (.int .u8 (.ofNat 0)))), (.s (.d (.int .u8 (.ofNat 0)))), (.s (.d (.int .u8 (.ofNat 0)))), (.s (.d (.int .u8 (.ofNat 0)))), (.s (.d (.int .u8 (.ofNat 0)))), (.s (.d (.int .u8 (.ofNat 0)))), (.s (.d (.int .u8 (.ofNat 0)))), (.s (.d (.int .u8 (.ofNat 0)))), (.s (.d (.int .u8 (.ofNat 0)))), (.s (.d (.int .u8 (.ofNat 0)))), (.s (.d (.int .u8 (.ofNat 0)))), (.s (.d (.int .u8 (.ofNat 0)))), (.s (.d (.int .u8 (.ofNat 0)))), (.s (.d (.int .u8 (.ofNat 0)))), (.s (.d (.int .u8 (.ofNat 0)))), (.s (.d (.int .u8 (.ofNat 0)))), (.s (.d (.int .u8 (.ofNat 0)))), (.s (.d (.int .u8 (.ofNat 0)))), (.s (.d (.int .u8 (.ofNat 0)))), (.s (.d (.int .u8 (.ofNat 0)))), (.s (.d (.int .u8 (.ofNat 0)))), (.s (.d (.int .u8 (.ofNat 0)))), (.s (.d (.int .u8 (.ofNat 0)))), (.s (.d (.int .u8 (.ofNat 0)))), (.s (.d (.int .u8 (.ofNat 0)))), (.s (.d (.int .u8 (.ofNat 0)))), (.s (.d (.int .u8 (.ofNat 0)))), (.s (.d (.int .u8 (.ofNat 0)))), (.s (.d (.int .u8 (.ofNat 0)))), (.s (.d (.int .u8 (.ofNat 0)))), (.s (.d (.int .u8 (.ofNat 0)))), (.s (.d (.int .u8 (.ofNat 0)))), (.s (.d (.int .u8 (.ofNat 0)))), (.s (.d (.int .u8 (.ofNat 0)))), (.s (.d (.int .u8 (.ofNat 0)))), (.s (.d (.int .u8 (.ofNat 0)))), (.s (.d (.int .u8 (.ofNat 0)))), (.s (.d (.int .u8 (.ofNat 0)))), (.s (.d (.int .u8 (.ofNat 0)))), (.s (.d (.int .u8 (.ofNat 0)))), (.s (.d (.int .u8 (.ofNat 0)))), (.s (.d (.int .u8 (.ofNat 0)))), (.s (.d (.int .u8 (.ofNat 0)))), (.s (.d (.int .u8 (.ofNat 0)))), (.s (.d (.int .u8 (.ofNat 0)))), (.s (.d (.int .u8 (.ofNat 0)))), (.s (.d (.int .u8 (.ofNat 0)))), (.s (.d (.int .u8 (.ofNat 0)))), (.s (.d (.int .u8 (.ofNat 0)))), (.s (.d (.int .u8 (.ofNat 0)))), (.s (.d (.int .u8 (.ofNat 0)))), (.s (.d (.int .u8 (.ofNat 0)))), (.s (.d (.int .u8 (.ofNat 0)))), (.s (.d (.int .u8 (.ofNat 0)))), (.s (.d (.int .u8 (.ofNat 0)))), (.s (.d (.int .u8 (.ofNat 0)))), (.s (.d (.int .u8 (.ofNat 0)))), (.s (.d (.int .u8 (.ofNat 0)))), (.s (.d (.int .u8 (.ofNat 0)))), (.s (.d (.int .u8 (.ofNat 0)))), (.s (.d (.int .u8 (.ofNat 0)))), (.s (.d (.int .u8 (.ofNat 0)))), (.s (.d (.int .u8 (.ofNat 0)))), (.s (.d (.int .u8 (.ofNat 0)))), (.s (.d (.int .u8 (.ofNat 0)))), (.s (.d (.int .u8 (.ofNat 0)))), (.s (.d (.int .u8 (.ofNat 0)))), (.s (.d (.int .u8 (.ofNat 0)))), (.s (.d (.int .u8 (.ofNat 0)))), (.s (.d (.int .u8 (.ofNat 0)))), (.s (.d (.int .u8 (.ofNat 0)))), (.s (.d (.int .u8 (.ofNat 0)))), (.s (.d (.int .u8 (.ofNat 0)))), (.s (.d (.int .u8 (.ofNat 0)))), (.s (.d (.int .u8 (.ofNat 0)))), (.s (.d (.int .u8 (.ofNat 0)))), (.s (.d (.int .u8 (.ofNat 0)))), (.s (.d (.int .u8 (.ofNat 0)))), (.s (.d (.int .u8 (.ofNat 0)))), (.s (.d (.int .u8 (.ofNat 0)))), (.s (.d (.int .u8 (.ofNat 0)))), (.s (.d (.int .u8 (.ofNat 0)))), (.s (.d (.int .u8 (.ofNat 0)))), (.s (.d (.int .u8 (.ofNat 0)))), (.s (.d (.int .u8 (.ofNat 0)))), (.s (.d (.int .u8 (.ofNat 0)))), (.s (.d (.int .u8 (.ofNat 0)))), (.s (.d (.int .u8 (.ofNat 0)))), (.s (.d (.int .u8 (.ofNat 0)))), (.s (.d (.int .u8 (.ofNat 0)))), (.s (.d (.int .u8 (.ofNat 0)))), (.s (.d (.int .u8 (.ofNat 0)))), (.s (.d (.int .u8 (.ofNat 0)))), (.s (.d (.int .u8 (.ofNat 0)))), (.s (.d (.int .u8 (.ofNat 0))))])
def x25 : AObj := (.row 5 1 0 [(.s (.d (.int .u8 (.ofNat 2)))), (.s (.d (.int .u8 (.ofNat 0)))), (.s (.d (.int .u8 (.ofNat 0)))), (.s (.d (.int .u8 (.ofNat 0)))), (.s (.d (.int .u8 (.ofNat 0)))), (.s (.d (.int .u8 (.ofNat 0)))), (.s (.d (.int .u8 (.ofNat 0)))), (.s (.d (.int .u8 (.ofNat 0)))), (.s (.d (.int .u8 (.ofNat 0)))), (.s (.d (.int .u8 (.ofNat 0)))), (.s (.d (.int .u8 (.ofNat 0)))), (.s (.d (.int .u8 (.ofNat 0)))), (.s (.d (.int .u8 (.ofNat 0)))), (.s (.d (.int .u8 (.ofNat 0)))), (.s (.d (.int .u8 (.ofNat 0)))), (.s (.d (.int .u8 (.ofNat 0)))), (.s (.d (.int .u8 (.ofNat 0)))), (.s (.d (.int .u8 (.ofNat 0)))), (.s (.d (.int .u8 (.ofNat 0)))), (.s (.d (.int .u8 (.ofNat 0)))), (.s (.d (.int .u8 (.ofNat 0)))), (.s (.d (.int .u8 (.ofNat 0)))), (.s (.d (.int .u8 (.ofNat 0)))), (.s (.d (.int .u8 (.ofNat 0)))), (.s (.d (.int .u8 (.ofNat 0)))), (.s (.d (.int .u8 (.ofNat 0)))), (.s (.d (.int .u8 (.ofNat 0)))), (.s (.d (.int .u8 (.ofNat 0)))), (.s (.d (.int .u8 (.ofNat 0)))), (.s (.d (.int .u8 (.ofNat 0)))), (.s (.d (.int .u8 (.ofNat 0)))), (.s (.d (.int .u8 (.ofNat 0)))), (.s (.d (.int .u8 (.ofNat 0)))), (.s (.d (.int .u8 (.ofNat 0)))), (.s (.d (.int .u8 (.ofNat 0)))), (.s (.d (.int .u8 (.ofNat 0)))), (.s (.d (.int .u8 (.ofNat 0)))), (.s (.d (.int .u8 (.ofNat 0)))), (.s (.d (.int .u8 (.ofNat 0)))), (.s (.d (.int .u8 (.ofNat 0)))), (.s (.d (.int .u8 (.ofNat 0)))), (.s (.d (.int .u8 (.ofNat 0)))), (.s (.d (.int .u8 (.ofNat 0)))), (.s (.d (.int .u8 (.ofNat 0)))), (.s (.d (.int .u8 (.ofNat 0)))), (.s (.d (.int .u8 (.ofNat 0)))), (.s (.d (.int .u8 (.ofNat 0)))), (.s (.d (.int .u8 (.ofNat 0)))), (.s (.d (.int .u8 (.ofNat 0)))), (.s (.d (.int .u8 (.ofNat 0)))), (.s (.d (.int .u8 (.ofNat 0)))), (.s (.d (.int .u8 (.ofNat 0)))), (.s (.d (.int .u8 (.ofNat 0)))), (.s (.d (.int .u8 (.ofNat 0)))), (.s (.d (.int .u8 (.ofNat 0)))), (.s (.d (.int .u8 (.ofNat 0)))), (.s (.d (.int .u8 (.ofNat 0)))), (.s (.d (.int .u8 (.ofNat 0)))), (.s (.d (.int .u8 (.ofNat 0)))), (.s (.d (.int .u8 (.ofNat 0)))), (.s (.d (.int .u8 (.ofNat 0)))), (.s (.d (.int .u8 (.ofNat 0)))), (.s (.d (.int .u8 (.ofNat 0)))), (.s (.d (.int .u8 (.ofNat 0)))), (.s (.d (.int .u8 (.ofNat 0)))), (.s (.d (.int .u8 (.ofNat 0)))), (.s (.d (.int .u8 (.ofNat 0)))), (.s (.d (.int .u8 (.ofNat 0)))), (.s (.d (.int .u8 (.ofNat 0)))), (.s (.d (.int .u8 (.ofNat 0)))), (.s (.d (.int .u8 (.ofNat 0)))), (.s (.d (.int .u8 (.ofNat 0)))), (.s (.d (.int .u8 (.ofNat 0)))), (.s (.d (.int .u8 (.ofNat 0)))), (.s (.d (.int .u8 (.ofNat 0)))), (.s (.d (.int .u8 (.ofNat 0)))), (.s (.d (.int .u8 (.ofNat 0)))), (.s (.d (.int .u8 (.ofNat 0)))), (.s (.d (.int .u8 (.ofNat 0)))), (.s (.d (.int .u8 (.ofNat 0)))), (.s (.d (.int .u8 (.ofNat 0)))), (.s (.d (.int .u8 (.ofNat 0)))), (.s (.d (.int .u8 (.ofNat 0)))), (.s (.d (.int .u8 (.ofNat 0)))), (.s (.d (.int .u8 (.ofNat 0)))), (.s (.d (.int .u8 (.ofNat 0)))), (.s (.d (.int .u8 (.ofNat 0)))), (.s (.d (.int .u8 (.ofNat 0)))), (.s (.d (.int .u8 (.ofNat 0)))), (.s (.d (.int .u8 (.ofNat 0)))), (.s (.d (.int .u8 (.ofNat 0)))), (.s (.d (.int .u8 (.ofNat 0)))), (.s (.d (.int .u8 (.ofNat 0)))), (.s (.d (.int .u8 (.ofNat 0)))), (.s (.d (.int .u8 (.ofNat 0)))), (.s (.d (.int .u8 (.ofNat 0)))), (.s (.d (.int .u8 (.ofNat 0)))), (.s (.d (.int .u8 (.ofNat 0)))), (.s (.d (.int .u8 (.ofNat 0)))), (.s (.d (.int .u8 (.ofNat 0)))), (.s (.d (.int .u8 (.ofNat 0)))), (.s (.d (.int .u8 (.ofNat 0)))), (.s (.d (.int .u8 (.ofNat 0)))), (.s (.d (.int .u8 (.ofNat 0)))), (.s (.d (.int .u8 (.ofNat 0)))), (.s (.d (.int .u8 (.ofNat 0)))), (.s (.d (.int .u8 (.ofNat 0)))), (.s (.d (.int .u8 (.ofNat 0)))), (.s (.d (.int .u8 (.ofNat 0)))), (.s (.d (.int .u8 (.ofNat 0)))), (.s (.d (.int .u8 (.ofNat 0)))), (.s (.d (.int .u8 (.ofNat 0)))), (.s (.d (.int .u8 (.ofNat 0)))), (.s (.d (.int .u8 (.ofNat 0)))), (.s (.d (.int .u8 (.ofNat 0)))), (.s (.d (.int .u8 (.ofNat 0)))), (.s (.d (.int .u8 (.ofNat 0)))), (.s (.d (.int .u8 (.ofNat 0)))), (.s (.d (.int .u8 (.ofNat 0)))), (.s (.d (.int .u8 (.ofNat 0)))), (.s (.d (.int .u8 (.ofNat 0)))), (.s (.d (.int .u8 (.ofNat 0)))), (.s (.d (.int .u8 (.ofNat 0)))), (.s (.d (.int .u8 (.ofNat 0)))), (.s (.d (.int .u8 (.ofNat 0)))), (.s (.d (.int .u8 (.ofNat 0)))), (.s (.d (.int .u8 (.ofNat 0)))), (.s (.d (.int .u8 (.ofNat 0))))])
def x26 : AObj := (.row 219 2 0 [(xi 1), (.s (.d h11))])
def x27 : AObj := (.row 5 1 0 [(.s (.d (.int .u8 (.ofNat 3))))])
def m28 : PM AObj := (nn (nn (nn (nn (nd x18 (lf x23) .nil) .nil) .nil) .nil) (nn (nn (nn (nn .nil (lf x24)) (lf x25)) .nil) (nn .nil (nd x26 .nil (nn (lf x27) .nil)))))
def x29 : AObj := (.row 126 1 0 [(.s (.d (.int .u64 (.ofNat 0))))])
def x30 : AObj := (.map .str [] 0)
def x31 : AObj := (.row 219 2 1 [(xi 100), (.s (.d h13)), (xi 101), (.s (.d h14))])
def m32 : PM AObj := (nn (nn (nd x29 (nn (nn .nil (lf x24)) .nil) .nil) (nn (nn (nn .nil (lf x30)) .nil) (lf x26))) (nn (nn (nn .nil (nn (lf x31) .nil)) .nil) (nn (nn .nil (nn (lf x24) .nil)) .nil)))
def x33 : AObj := (.row 3 1 0 [(xi 0)])
def x34 : AObj := (.row 9 1 0 [(xs [2, 0, 1, 2, 1, 1, 82])])
def x35 : AObj := (.row 186 1 0 [(.s (.ptr 42 0 0))])
def m36 : PM AObj := (nn (nn (nn .nil (nd x33 (lf x33) .nil)) (nn (nn .nil (nn (nn (lf x34) .nil) .nil)) .nil)) (nn (nd x35 (nn .nil (nn (nn .nil (lf x30)) .nil)) .nil) (nn (nn .nil (nn (nn (lf x24) .nil) .nil)) .nil)))
def x37 : AObj := (.row 305 8 0 [(.s (.ptr 1 0 0)), (xi 0), (xi 98), (xi 2), (xi 2), (xi 0), (.s (.d (.sl [] true))), (.s (.d (.bool false)))])
def x38 : AObj := (.row 186 1 0 [(.s (.ptr 96 0 0))])
def x39 : AObj := (.row 186 1 0 [(.s (.ptr 160 0 0))])
def x40 : AObj := (.row 219 2 0 [(xi 100), (.s (.d h13))])
def x41 : AObj := (.row 219 2 0 [(xi 0), (.s (.d h15))])
def x42 : AObj := (.row 268 1 0 [(.s (.ptr 255 0 0))])
def x43 : AObj := (.row 219 2 0 [(xi 101), (.s (.d h14))])
def x44 : AObj := (.row 65 6 0 [(.s (.ptr 255 0 0)), (.s (.ptr 457 0 0)), (.s (.ptr 808 0 0)), (xi 0), (.s (.d (.sl [] true))), (.s (.d (.bool false)))])
def x45 : AObj := (.row 5 1 0 [(.s (.d (.int .u8 (.ofNat 82))))])
def x46 : AObj := (.row 5 1 0 [(.s (.d (.int .u8 (.ofNat 15))))])
def m47 : PM AObj := (nn (nn (nn (nn (nn .nil (lf x41)) .nil) (nn .nil (nd x42 (lf x43) .nil))) (nn (nn (nn .nil (lf x44)) (lf x45)) .nil)) (nn (nn (nn (nn (lf x34) .nil) .nil) .nil) (nn (nn (nn (lf x46) .nil) (nn (lf x40) .nil)) .nil)))
def x48 : AObj := (.row 3 1 1 [(xi 0), (xi 1)])
def x49 : AObj := (.row 219 2 0 [(xi 2), (.s (.d h12))])
def x50 : AObj := (.row 56 6 0 [(.s (.ptr 809 0 0)), (xs []), (.s (.d (.bool false))), (xi 0), (xi 0), (xi 0)])
def m51 : PM AObj := (nn (nn (nn .nil (nn (nn (nn .nil (lf x48)) .nil) .nil)) (nn (nn .nil (nn (nn (lf x49) .nil) .nil)) .nil)) (nn (nd x33 (nn .nil (nn (nn .nil (lf x50)) .nil)) (nn .nil (lf x26))) (nn .nil (nd x29 (nn .nil (lf x24)) .nil))))
def m52 : PM AObj := (nn (nn (nd x37 (nn .nil (nd x38 (lf x39) .nil)) (nn (nn (nn .nil (nn (lf x40) .nil)) (nn (nn (lf x24) .nil) (lf x34))) .nil)) m47) m51)
def x53 : AObj := (.row 79 3 0 [(.s (.ptr 846 0 0)), (.s (.ptr 1 0 0)), (xi 100)])
def x54 : AObj := (.row 243 3 0 [(xs []), (xi 0), (xi 8)])
def x55 : AObj := (.row 96 4 0 [(xi 0), (.s (.d (.int .i64 (.negSucc 0)))), (xi 0), (.s (.mp 807))])
def x56 : AObj := (.row 317 1 0 [(xi 8)])
def m57 : PM AObj := (nn (nn (nn (nn (nn .nil (lf x41)) .nil) (nn .nil (nn (lf x43) .nil))) (nn (nn (nn .nil (lf x55)) (lf x24)) .nil)) (nd x56 (nd x24 (nd x24 (nn (lf x34) .nil) .nil) .nil) (nn (nn .nil (nn (lf x40) .nil)) .nil)))
def x58 : AObj := (.mit (some 807) 0 [] 0)
def x59 : AObj := (.row 325 4 0 [(xi 0), (xs []), (xs []), (.s (.d (.bool false)))])
def m60 : PM AObj := (nn (nn (nn .nil (nn (nn (nn .nil (lf x33)) .nil) .nil)) (nn (nn .nil (nd x27 (nn (lf x34) .nil) .nil)) (nn .nil (lf x24)))) (nn (nd x29 (nn .nil (nn (nn (lf x49) (lf x58)) .nil)) (nn .nil (lf x24))) (nn .nil (nd x38 (lf x59) .nil))))
def m61 : PM AObj := (nn (nd x24 (nn (nn (nn .nil (lf x41)) .nil) .nil) (nd x29 (lf x29) .nil)) (nn (nn .nil (nn (nn (lf x49) .nil) .nil)) (nn (nn .nil (nn (lf x43) .nil)) .nil)))
def x62 : AObj := (.row 96 4 0 [(xi 0), (.s (.d (.int .i64 (.negSucc 0)))), (xi 0), (.s (.mp 843))])
def x63 : AObj := (.row 59 1 0 [(.s (.ptr 255 0 0))])
def x64 : AObj := (.row 3 1 0 [(xi 1)])
def m65 : PM AObj := (nn (nn (nd x35 (lf x59) .nil) (nn (nn (nn .nil (lf x64)) .nil) .nil)) (nn (nn (nn .nil (nn (lf x24) .nil)) (nn (nn (lf x49) .nil) .nil)) .nil))
def x66 : AObj := (.row 148 2 0 [(.s (.ptr 845 0 0)), (.s (.ptr 809 0 0))])
def x67 : AObj := (.map (.int .i64) [] 2)
def m68 : PM AObj := (nn (nn (nn (nn .nil (lf x24)) (nn (nn .nil (lf x66)) (nn (lf x24) .nil))) (nd x56 (lf x56) (lf x26))) (nn .nil (nn (nn .nil (nn (lf x24) .nil)) (lf x67))))
def m69 : PM AObj := (nn (nn m61 (nn (nd x54 (nn (nn (nn .nil (lf x41)) .nil) (nn (nn .nil (lf x62)) (lf x63))) (nn .nil (nn (lf x24) .nil))) .nil)) (nn m65 m68))
def m70 : PM AObj := (nd x16 (nd x17 (nn (nn m28 m32) m36) m52) (nd x53 (nn (nn (nn (nn .nil (nd x54 (lf x54) .nil)) (nn .nil (nn (nn (lf x24) .nil) .nil))) m57) m60) m69))
def s71 : St := ⟨m70, 847, 0⟩
theorem t7 : PC (evO badP allP Ot A 1000000 199) 1000000 k6 f5 s4 .normal f10 s71 := fun K => by kernel_rfl
def k72 : ACode := .region [E 26 (.callf 84 [(ci 0), (ci 10)]),
V 25 26,
Q 27 (.extract 0 (.t 25)),
Q 28 (.extract 1 (.t 25)),
V 3 27,
V 4 28]
def y74 : AVal := (.tup [(.one (.s (.d .nilp))), (.one (xi 1))])
def m75 : PM AVal := (nd (vp 2 0 0) (nd (.v (.one (.s (.d .nilp)))) (nn .nil (lf (vp 2 0 0))) (nn .nil (lf (.v (.one (.s (.d .nilp))))))) (nn (nn .nil (lf y74)) (nn (lf y8) .nil)))
def m76 : PM AVal := (nd (vi 0) (nd (vi 1) (nn .nil (lf (vi 0))) (nn .nil (lf (vi 1)))) (nn (nn .nil (lf y74)) (nn (lf y8) .nil)))
def f77 : Fr := ⟨(nd (vb false) m75 m76), [], none⟩
theorem t73 : PC (evO badP allP Ot A 1000000 199) 1000000 k72 f10 s71 .normal f77 s71 := fun K => by kernel_rfl
def k78 : ACode := .region [E 30 (.callf 84 [(ci 20), (ci 20)]),
V 29 30,
Q 31 (.extract 0 (.t 29)),
Q 32 (.extract 1 (.t 29)),
V 5 31,
V 6 32]
def m80 : PM AVal := (nd (vp 2 0 0) (nd (.v (.one (.s (.d .nilp)))) (nn (nn (lf (.v (.one (.s (.d .nilp))))) .nil) (lf (vp 2 0 0))) (nn .nil (lf (.v (.one (.s (.d .nilp))))))) (nd (.v (.one (.s (.d .nilp)))) (nn .nil (lf y74)) (nn (lf y8) (lf y74))))
def m81 : PM AVal := (nd (vi 1) (nn (nn (lf (vi 1)) .nil) (lf (vi 0))) (nn .nil (lf (vi 1))))
def f82 : Fr := ⟨(nd (vb false) m80 (nd (vi 0) m81 (nd (vi 1) (nn .nil (lf y74)) (nn (lf y8) (lf y74))))), [], none⟩
def x83 : AObj := (.map (.int .i64) [] 0)
def m84 : PM AObj := (nn (nn (nn (nn (nd x18 (lf x23) .nil) .nil) .nil) .nil) (nn (nn (nn (nn .nil (lf x24)) (lf x25)) (nn (nn .nil (lf x83)) .nil)) (nn .nil (nd x26 .nil (nn (lf x27) .nil)))))
def x85 : AObj := (.row 79 3 0 [(.s (.d .nilp)), (.s (.ptr 848 0 0)), (xi 20)])
def m86 : PM AObj := (nn (nd x37 (nn .nil (nd x38 (lf x39) .nil)) (nn (nn (nn .nil (nn (lf x40) .nil)) (nn (nn (lf x24) (lf x85)) (lf x34))) .nil)) m47)
def x87 : AObj := (.row 216 7 0 [(xi 20), (.s (.mp 847)), (.s (.d (.sl [] true))), (xi 0), (xi 0), (.s (.d (.bool false))), (xi 0)])
def m88 : PM AObj := (nd x53 (nn (nn (nn (nn .nil (nd x54 (lf x54) .nil)) (nn (nn .nil (nn (nn .nil (lf x87)) .nil)) (nn (nn (lf x24) .nil) .nil))) m57) m60) m69)
def s89 : St := ⟨(nd x16 (nd x17 (nn (nn m84 m32) m36) (nn m86 m51)) m88), 864, 0⟩
theorem t79 : PC (evO badP allP Ot A 1000000 199) 1000000 k78 f77 s71 .normal f82 s89 := fun K => by kernel_rfl
def k90 : ACode := .seq (
.region [V 33 2,
Q 34 (.bin .neq .scalar (.t 33) (ci 0)),
V 35 34,
G 36 (.mov (.t 1)) 35 false,
G 37 (.bin .eql .ptr (.t 36) (.c (.one (dc (.nilp))))) 35 false,
Q 38 (.pick (.t 35) (cb true) (.t 37))]) (
.cond (.t 38) (
.seq (
.region [Q 0 (.mov (cb false))]) (
.ret)) (
.skip))
def m92 : PM AVal := (nd (.v (.one (.s (.d .nilp)))) (nn (nn (lf (.v (.one (.s (.d .nilp))))) .nil) (lf (vp 2 0 0))) (nn (nn (lf (vb false)) .nil) (lf (.v (.one (.s (.d .nilp)))))))
def m93 : PM AVal := (nd (vp 2 0 0) m92 (nd (.v (.one (.s (.d .nilp)))) (nn (nn (lf (vi 0)) .nil) (lf y74)) (nn (nd y8 (lf (vb false)) .nil) (lf y74))))
def m94 : PM AVal := (nd (vi 1) (nn (nn (lf (vi 1)) .nil) (lf (vi 0))) (nn (nn (lf (vp 2 0 0)) .nil) (lf (vi 1))))
def m95 : PM AVal := (nd (vi 1) (nn (nn (lf (vb false)) .nil) (lf y74)) (nn (nd y8 (lf (vb false)) .nil) (lf y74)))
def f96 : Fr := ⟨(nd (vb false) m93 (nd (vi 0) m94 m95)), [], none⟩
theorem t91 : PC (evO badP allP Ot A 1000000 199) 1000000 k90 f82 s89 .normal f96 s89 := fun K => by kernel_rfl
def k97 : ACode := .region [E 39 (.callf 62 [(cs [116]), (cb false)]),
M 40 (.bslice 116 8 1 zl11 [(0, 8, (.t 39))]),
Q 41 (.build zl6 [(0, 1, (ci 1)), (1, 1, (ci 5)), (2, 1, (.t 40))]),
E 42 (.callf 72 [(.t 41)]),
V 7 42]
def h99 : Dat := (.str [0, 0, 0, 21, 1, 5, 1, 3, 16, 1, 116, 1, 2, 2, 105, 100, 2, 1, 4, 110, 97, 109, 101, 5, 0, 138, 84, 76, 101])
def h100 : Dat := (.sl [[(.str [105, 100]), (.int .i64 (.ofNat 2)), (.bool true)], [(.str [110, 97, 109, 101]), (.int .i64 (.ofNat 5)), (.bool false)]] false)
def u101 : Vl := (.agg [(xi 3), (xs [116]), (.s (.d (.sl [] false))), (xi 0), (xi 0), (xs [116]), (.s (.d h100)), (xi 1)])
def m102 : PM AVal := (nd (.v (.one (.s (.d .nilp)))) (nd (.v (.one (.s (.d h99)))) (nn (lf (.v (.one (.s (.d .nilp))))) .nil) (nd (vp 2 0 0) (lf (.v u101)) .nil)) (nn (nn (lf (vb false)) .nil) (lf (.v (.one (.s (.d .nilp)))))))
def u103 : Vl := (.agg [(xi 1), (xi 5), (.s (.sl 864 0 0 1 true))])
def m104 : PM AVal := (nd (.v (.one (.s (.d .nilp)))) (nn (nn (lf (vi 0)) .nil) (nd y74 (lf (.v u103)) .nil)) (nn (nd y8 (lf (vb false)) .nil) (lf y74)))
def m105 : PM AVal := (nd (vi 1) (nn (nn (lf (vi 1)) .nil) (nd (vi 0) (lf (.v (.one (.s (.sl 864 0 0 1 true))))) .nil)) (nn (nn (lf (vp 2 0 0)) .nil) (lf (vi 1))))
def m106 : PM AVal := (nd (vi 1) (nn (nn (lf (vb false)) .nil) (nd y74 (lf (.v (.one (.s (.d h99))))) .nil)) (nn (nd y8 (lf (vb false)) .nil) (lf y74)))
def f107 : Fr := ⟨(nd (vb false) (nd (vp 2 0 0) m102 m104) (nd (vi 0) m105 m106)), [], none⟩
def x108 : AObj := (.row 116 8 0 [(xi 3), (xs [116]), (.s (.d (.sl [] false))), (xi 0), (xi 0), (xs [116]), (.s (.d h100)), (xi 1)])
def m109 : PM AObj := (nn (nn .nil (nd x54 (lf x54) (nn (nn .nil (lf x108)) .nil))) (nn (nn .nil (nn (nn .nil (lf x87)) .nil)) (nn (nn (lf x24) .nil) .nil)))
def s110 : St := ⟨(nd x16 (nd x17 (nn (nn m84 m32) m36) (nn m86 m51)) (nd x53 (nn (nn m109 m57) m60) m69)), 865, 0⟩
theorem t98 : PC (evO badP allP Ot A 1000000 199) 1000000 k97 f96 s89 .normal f107 s110 := fun K => by kernel_rfl
def r111 : List AOper := [V 43 1, V 44 7, V 45 7, Q 46 (.sslice (.t 45) none (some (ci 5))), Q 47 (.bin .add .scalar (.t 44) (.t 46))]
def h112 : Dat := (.str [0, 0, 0, 21, 1, 5, 1, 3, 16, 1, 116, 1, 2, 2, 105, 100, 2, 1, 4, 110, 97, 109, 101, 5, 0, 138, 84, 76, 101, 0, 0, 0, 21, 1])
def m113 : PM AVal := (nd (.v (.one (.s (.d .nilp)))) (nd (.v (.one (.s (.d h99)))) (nn (lf (.v (.one (.s (.d .nilp))))) (lf (.v (.one (.s (.d h112)))))) (nd (vp 2 0 0) (lf (.v u101)) .nil)) (nn (nn (lf (vb false)) .nil) (nd (.v (.one (.s (.d .nilp)))) (lf (vp 2 0 0)) .nil)))
def m114 : PM AVal := (nd (.v (.one (.s (.d .nilp)))) (nn (nn (lf (vi 0)) .nil) (nd y74 (lf (.v u103)) .nil)) (nn (nd y8 (lf (vb false)) .nil) (nd y74 (lf (.v (.one (.s (.d h99))))) .nil)))
def m115 : PM AVal := (nd (vi 1) (nn (nn (lf (vi 1)) .nil) (nd (vi 0) (lf (.v (.one (.s (.sl 864 0 0 1 true))))) .nil)) (nn (nn (lf (vp 2 0 0)) .nil) (nd (vi 1) (lf (.v (.one (.s (.d h99))))) .nil)))
def m116 : PM AVal := (nd (vi 1) (nn (nn (lf (vb false)) .nil) (nd y74 (lf (.v (.one (.s (.d h99))))) .nil)) (nn (nd y8 (lf (vb false)) .nil) (nd y74 (lf (vs [0, 0, 0, 21, 1])) .nil)))
def f117 : Fr := ⟨(nd (vb false) (nd (vp 2 0 0) m113 m114) (nd (vi 0) m115 m116)), [], none⟩
theorem o118 : PX (evO badP allP Ot A 1000000 199) r111 f107 s110 f117 s110 := fun r K => by kernel_rfl
def r119 : List AOper := [E 48 (.callf 31 [(.t 43), (.t 47)])]
def k120 : ACode := .region [Q 4 (.mov (.c (.one (dc (.sl [] true)))))]
def f122 : Fr := ⟨(nd (vp 2 0 0) (lf (.v (.one (.s (.d h112))))) .nil), [], none⟩
def f123 : Fr := ⟨(nd (vp 2 0 0) (lf (.v (.one (.s (.d h112))))) (nn (lf (.v (.one (.s (.d (.sl [] true)))))) .nil)), [], none⟩
theorem t121 : PC (evO badP allP Ot A 1000000 198) 1000000 k120 f122 s110 .normal f123 s110 := fun K => by kernel_rfl
def k124 : ACode := .seq (
.region [V 5 0,
E 6 (.callf 35 [(.t 5)]),
Q 7 (.un .not (.t 6))]) (
.cond (.t 7) (
.seq (
.region [Q 4 (.mov (.c (.one (dc (.sl [] true)))))]) (
.ret)) (
.skip))
def m126 : PM AVal := (nd (vp 2 0 0) (nd (.v (.one (.s (.d h112)))) (nn (lf (vb false)) .nil) (lf (vp 2 0 0))) (nn (lf (.v (.one (.s (.d (.sl [] true)))))) (lf (vb true))))
def f127 : Fr := ⟨m126, [], none⟩
theorem t125 : PC (evO badP allP Ot A 1000000 198) 1000000 k124 f123 s110 .normal f127 s110 := fun K => by kernel_rfl
def r128 : List AOper := [V 8 0, Q 9 (.nilck (.t 8)), Q 10 (.faddr 0 (.t 9)), Q 11 (.load false 1 (.t 10)), Q 12 (.nilck (.t 11)), Q 13 (.faddr 0 (.t 12)), Q 14 (.load false 1 (.t 13)), V 15 1]
def m129 : PM AVal := (nd (.v (.one (.s (.d h112)))) (nn (nd (vb false) (lf (.v (.one (.s (.d h112))))) .nil) (lf (vp 846 0 0))) (nd (vp 2 0 0) (lf (vp 2 0 0)) (lf (vp 846 0 0))))
def m130 : PM AVal := (nn (nd (.v (.one (.s (.d (.sl [] true))))) (lf (vp 2 0 0)) (lf (vp 846 0 0))) (nd (vb true) (lf (vp 2 0 0)) (lf (vp 845 0 0))))
def f131 : Fr := ⟨(nd (vp 2 0 0) m129 m130), [], none⟩
theorem o132 : PX (evO badP allP Ot A 1000000 198) r128 f127 s110 f131 s110 := fun r K => by kernel_rfl
def r133 : List AOper := [E 16 (.callf 23 [(.t 14), (.t 15)])]
def f135 : Fr := ⟨(nd (vp 845 0 0) (lf (.v (.one (.s (.d h112))))) .nil), [], none⟩
def f136 : Fr := ⟨(nd (vp 845 0 0) (lf (.v (.one (.s (.d h112))))) (nn (lf (.v (.one (.s (.d (.sl [] true)))))) .nil)), [], none⟩
theorem t134 : PC (evO badP allP Ot A 1000000 197) 1000000 k120 f135 s110 .normal f136 s110 := fun K => by kernel_rfl
def k137 : ACode := .seq (
.region [V 10 0,
E 11 (.callf 68 [(.t 10)]),
Q 12 (.un .not (.t 11))]) (
.cond (.t 12) (
.seq (
.region [Q 4 (.mov (.c (.one (dc (.sl [] true)))))]) (
.ret)) (
.skip))
def m139 : PM AVal := (nd (vp 845 0 0) (nd (.v (.one (.s (.d h112)))) (nn .nil (lf (vb true))) .nil) (nn (nd (.v (.one (.s (.d (.sl [] true))))) .nil (lf (vb false))) (nn (lf (vp 845 0 0)) .nil)))
def f140 : Fr := ⟨m139, [], none⟩
theorem t138 : PC (evO badP allP Ot A 1000000 197) 1000000 k137 f136 s110 .normal f140 s110 := fun K => by kernel_rfl
def k141 : ACode := .region [V 13 0,
Q 14 (.nilck (.t 13)),
Q 15 (.faddr 1 (.t 14)),
Q 16 (.load false 1 (.t 15)),
V 17 1,
Q 18 (.bin .add .scalar (.t 16) (.t 17)),
Q 19 (.nilck (.t 13)),
Q 20 (.faddr 1 (.t 19)),
S 1 20 18]
def m143 : PM AVal := (nd (.v (.one (.s (.d h112)))) (nn (nn (lf (vp 845 0 1)) .nil) (nd (vb true) (lf (vp 845 0 0)) .nil)) (nn (nn (lf (.v (.one (.s (.d h112))))) .nil) (lf (vp 845 0 0))))
def m144 : PM AVal := (nn (nd (.v (.one (.s (.d (.sl [] true))))) (nn (lf (vs [])) .nil) (nd (vb false) (lf (vp 845 0 1)) .nil)) (nn (nd (vp 845 0 0) (lf (.v (.one (.s (.d h112))))) .nil) (lf (vp 845 0 0))))
def f145 : Fr := ⟨(nd (vp 845 0 0) m143 m144), [], none⟩
def x146 : AObj := (.row 56 6 0 [(.s (.ptr 809 0 0)), (.s (.d h112)), (.s (.d (.bool false))), (xi 0), (xi 0), (xi 0)])
def m147 : PM AObj := (nn (nn (nn .nil (nn (nn (nn .nil (lf x48)) .nil) .nil)) (nn (nn .nil (nn (nn (lf x49) .nil) .nil)) .nil)) (nn (nd x33 (nn .nil (nn (nn .nil (lf x146)) .nil)) (nn .nil (lf x26))) (nn .nil (nd x29 (nn .nil (lf x24)) .nil))))
def s148 : St := ⟨(nd x16 (nd x17 (nn (nn m84 m32) m36) (nn m86 m147)) (nd x53 (nn (nn m109 m57) m60) m69)), 865, 0⟩
theorem t142 : PC (evO badP allP Ot A 1000000 197) 1000000 k141 f140 s110 .normal f145 s148 := fun K => by kernel_rfl
def k149 : ACode := .region [Q 5 (.mov (.c (.one (dc (.sl [] true)))))]
def m151 : PM AVal := (nd (.v (.one (.s (.d h112)))) (nn (nn (lf (vp 845 0 1)) .nil) (nd (vb true) (lf (vp 845 0 0)) .nil)) (nd (.v (.one (.s (.d (.sl [] true))))) (nn (lf (.v (.one (.s (.d h112))))) .nil) (lf (vp 845 0 0))))
def f152 : Fr := ⟨(nd (vp 845 0 0) m151 m144), [], none⟩
theorem t150 : PC (evO badP allP Ot A 1000000 197) 1000000 k149 f145 s148 .normal f152 s148 := fun K => by kernel_rfl
def k153 : ACode := .skip
theorem t154 : PC (evO badP allP Ot A 1000000 197) 1000000 k153 f152 s148 .normal f152 s148 := fun K => by kernel_rfl
def k155 : ACode := .region [V 22 0,
Q 23 (.nilck (.t 22)),
Q 24 (.faddr 1 (.t 23)),
Q 25 (.load false 1 (.t 24)),
E 26 (.callf 69 [(.t 25)]),
V 21 26,
Q 27 (.extract 0 (.t 21)),
Q 28 (.extract 1 (.t 21)),
Q 29 (.extract 2 (.t 21)),
V 6 27,
V 7 28,
V 8 29]
def h157 : Dat := (.str [1, 5, 1, 3, 16, 1, 116, 1, 2, 2, 105, 100, 2, 1, 4, 110, 97, 109, 101, 5, 0])
def m158 : PM AVal := (nn (nd (vi 29) (lf (vp 845 0 1)) (lf (vp 845 0 0))) (nd (vb true) (lf (vp 845 0 0)) (lf (.v (.one (.s (.d h157)))))))
def y159 : AVal := (.tup [(.one (.s (.d h157))), (.one (xi 29)), (.one (xi 0))])
def m160 : PM AVal := (nd (.v (.one (.s (.d (.sl [] true))))) (nn (lf (.v (.one (.s (.d h112))))) (lf (.v (.one (.s (.d h112)))))) (nd (vp 845 0 0) (lf y159) (lf (vi 0))))
def m161 : PM AVal := (nd (.v (.one (.s (.d (.sl [] true))))) (nd (vi 0) (lf (vs [])) (lf (vp 845 0 1))) (nd (vb false) (lf (vp 845 0 1)) (lf (vi 29))))
def m162 : PM AVal := (nd (vp 845 0 0) (nd (.v (.one (.s (.d h112)))) m158 m160) (nn m161 (nd (.v (.one (.s (.d h157)))) (nd (vp 845 0 0) (lf (.v (.one (.s (.d h112))))) (lf y159)) (nd (vp 845 0 0) (lf (vp 845 0 0)) .nil))))
def f163 : Fr := ⟨m162, [], none⟩
theorem t156 : PC (evO badP allP Ot A 1000000 197) 1000000 k155 f152 s148 .normal f163 s148 := fun K => by kernel_rfl
def k164 : ACode := .region [V 30 8,
Q 31 (.build zl7 [(1, 1, (.t 30))]),
M 9 (.alloc 137 2 zl7),
S 2 9 31]
def u166 : Vl := (.agg [(xi 0), (xi 0)])
def m167 : PM AVal := (nn (nd (vi 29) (nd (vp 845 0 1) (lf (.v u166)) .nil) (lf (vp 845 0 0))) (nd (vb true) (lf (vp 845 0 0)) (lf (.v (.one (.s (.d h157)))))))
def m168 : PM AVal := (nd (.v (.one (.s (.d (.sl [] true))))) (nd (vp 865 0 0) (lf (.v (.one (.s (.d h112))))) (lf (.v (.one (.s (.d h112)))))) (nd (vp 845 0 0) (lf y159) (lf (vi 0))))
def m169 : PM AVal := (nd (.v (.one (.s (.d h157)))) (nd (vp 845 0 0) (lf (.v (.one (.s (.d h112))))) (lf y159)) (nd (vp 845 0 0) (lf (vp 845 0 0)) (lf (vi 0))))
def f170 : Fr := ⟨(nd (vp 845 0 0) (nd (.v (.one (.s (.d h112)))) m167 m168) (nn m161 m169)), [], none⟩
def x171 : AObj := (.row 137 2 0 [(xi 0), (xi 0)])
def m172 : PM AObj := (nd x37 (nn .nil (nd x38 (lf x39) (nn (nn .nil (lf x171)) .nil))) (nn (nn (nn .nil (nn (lf x40) .nil)) (nn (nn (lf x24) (lf x85)) (lf x34))) .nil))
def s173 : St := ⟨(nd x16 (nd x17 (nn (nn m84 m32) m36) (nn (nn m172 m47) m147)) (nd x53 (nn (nn m109 m57) m60) m69)), 866, 0⟩
theorem t165 : PC (evO badP allP Ot A 1000000 197) 1000000 k164 f163 s148 .normal f170 s173 := fun K => by kernel_rfl
def k174 : ACode := .region [V 32 8]
def m176 : PM AVal := (nd (.v (.one (.s (.d (.sl [] true))))) (nd (vi 0) (nd (vs []) (lf (vi 0)) .nil) (lf (vp 845 0 1))) (nd (vb false) (lf (vp 845 0 1)) (lf (vi 29))))
def f177 : Fr := ⟨(nd (vp 845 0 0) (nd (.v (.one (.s (.d h112)))) m167 m168) (nn m176 m169)), [], none⟩
theorem t175 : PC (evO badP allP Ot A 1000000 197) 1000000 k174 f170 s173 .normal f177 s173 := fun K => by kernel_rfl
def k178 : ACode := .region [Q 37 (.bin .eql .scalar (.t 32) (ci 8)),
V 36 37]
def m180 : PM AVal := (nd (.v (.one (.s (.d (.sl [] true))))) (nd (vp 865 0 0) (lf (.v (.one (.s (.d h112))))) (lf (.v (.one (.s (.d h112)))))) (nd (vp 845 0 0) (nd y159 (lf (vb false)) .nil) (lf (vi 0))))
def m181 : PM AVal := (nd (.v (.one (.s (.d (.sl [] true))))) (nd (vi 0) (nd (vs []) (lf (vi 0)) .nil) (lf (vp 845 0 1))) (nd (vb false) (nd (vp 845 0 1) (lf (vb false)) .nil) (lf (vi 29))))
def f182 : Fr := ⟨(nd (vp 845 0 0) (nd (.v (.one (.s (.d h112)))) m167 m180) (nn m181 m169)), [], none⟩
theorem t179 : PC (evO badP allP Ot A 1000000 197) 1000000 k178 f177 s173 .normal f182 s173 := fun K => by kernel_rfl
def k183 : ACode := .region [Q 39 (.bin .eql .scalar (.t 32) (ci 0)),
V 38 39]
def m185 : PM AVal := (nn (nd (vi 29) (nd (vp 845 0 1) (lf (.v u166)) .nil) (nd (vp 845 0 0) (lf (vb true)) .nil)) (nd (vb true) (lf (vp 845 0 0)) (lf (.v (.one (.s (.d h157)))))))
def m186 : PM AVal := (nd (.v (.one (.s (.d h157)))) (nd (vp 845 0 0) (lf (.v (.one (.s (.d h112))))) (lf y159)) (nd (vp 845 0 0) (nd (vp 845 0 0) (lf (vb true)) .nil) (lf (vi 0))))
def f187 : Fr := ⟨(nd (vp 845 0 0) (nd (.v (.one (.s (.d h112)))) m185 m180) (nn m181 m186)), [], none⟩
theorem t184 : PC (evO badP allP Ot A 1000000 197) 1000000 k183 f182 s173 .normal f187 s173 := fun K => by kernel_rfl
def k188 : ACode := .region [V 40 0,
V 41 0,
Q 42 (.nilck (.t 41)),
Q 43 (.faddr 1 (.t 42)),
Q 44 (.load false 1 (.t 43)),
V 45 7,
Q 46 (.sslice (.t 44) (some (.t 45)) none),
Q 47 (.nilck (.t 40)),
Q 48 (.faddr 1 (.t 47)),
S 1 48 46]
def m190 : PM AVal := (nd (vi 29) (nd (vp 845 0 1) (lf (.v u166)) (lf (vp 845 0 0))) (nd (vp 845 0 0) (lf (vb true)) .nil))
def m191 : PM AVal := (nd (.v (.one (.s (.d (.sl [] true))))) (nd (vp 865 0 0) (lf (.v (.one (.s (.d h112))))) (nd (.v (.one (.s (.d h112)))) (lf (vp 845 0 0)) .nil)) (nd (vp 845 0 0) (nd y159 (lf (vb false)) .nil) (nd (vi 0) (lf (vi 29)) .nil)))
def m192 : PM AVal := (nd (vi 0) (nd (vs []) (lf (vi 0)) (lf (vp 845 0 1))) (nd (vp 845 0 1) (lf (vp 845 0 0)) .nil))
def m193 : PM AVal := (nd (.v (.one (.s (.d (.sl [] true))))) m192 (nd (vb false) (nd (vp 845 0 1) (lf (vb false)) .nil) (nd (vi 29) (lf (.v (.one (.s (.d h112))))) .nil)))
def m194 : PM AVal := (nd (.v (.one (.s (.d h157)))) (nd (vp 845 0 0) (lf (.v (.one (.s (.d h112))))) (nd y159 (lf (vp 845 0 0)) .nil)) (nd (vp 845 0 0) (nd (vp 845 0 0) (lf (vb true)) .nil) (nd (vi 0) (lf (vs [0, 0, 0, 21, 1])) .nil)))
def m195 : PM AVal := (nd (vp 845 0 0) (nd (.v (.one (.s (.d h112)))) (nn m190 (nd (vb true) (lf (vp 845 0 0)) (nd (.v (.one (.s (.d h157)))) (lf (vp 845 0 1)) .nil))) m191) (nn m193 m194))
def f196 : Fr := ⟨m195, [], none⟩
def x197 : AObj := (.row 56 6 0 [(.s (.ptr 809 0 0)), (xs [0, 0, 0, 21, 1]), (.s (.d (.bool false))), (xi 0), (xi 0), (xi 0)])
def m198 : PM AObj := (nn (nn (nn .nil (nn (nn (nn .nil (lf x48)) .nil) .nil)) (nn (nn .nil (nn (nn (lf x49) .nil) .nil)) .nil)) (nn (nd x33 (nn .nil (nn (nn .nil (lf x197)) .nil)) (nn .nil (lf x26))) (nn .nil (nd x29 (nn .nil (lf x24)) .nil))))
def s199 : St := ⟨(nd x16 (nd x17 (nn (nn m84 m32) m36) (nn (nn m172 m47) m198)) (nd x53 (nn (nn m109 m57) m60) m69)), 866, 0⟩
theorem t189 : PC (evO badP allP Ot A 1000000 197) 1000000 k188 f187 s173 .normal f196 s199 := fun K => by kernel_rfl
def r200 : List AOper := [V 49 0, V 50 6]
def m201 : PM AVal := (nd (.v (.one (.s (.d (.sl [] true))))) (nd (vp 865 0 0) (nd (.v (.one (.s (.d h112)))) .nil (lf (vp 845 0 0))) (nd (.v (.one (.s (.d h112)))) (lf (vp 845 0 0)) .nil)) (nd (vp 845 0 0) (nd y159 (lf (vb false)) .nil) (nd (vi 0) (lf (vi 29)) .nil)))
def m202 : PM AVal := (nd (.v (.one (.s (.d h157)))) (nd (vp 845 0 0) (nd (.v (.one (.s (.d h112)))) .nil (lf (.v (.one (.s (.d h157)))))) (nd y159 (lf (vp 845 0 0)) .nil)) (nd (vp 845 0 0) (nd (vp 845 0 0) (lf (vb true)) .nil) (nd (vi 0) (lf (vs [0, 0, 0, 21, 1])) .nil)))
def m203 : PM AVal := (nd (vp 845 0 0) (nd (.v (.one (.s (.d h112)))) (nn m190 (nd (vb true) (lf (vp 845 0 0)) (nd (.v (.one (.s (.d h157)))) (lf (vp 845 0 1)) .nil))) m201) (nn m193 m202))
def f204 : Fr := ⟨m203, [], none⟩
theorem o205 : PX (evO badP allP Ot A 1000000 197) r200 f196 s199 f204 s199 := fun r K => by kernel_rfl
def r206 : List AOper := [E 51 (.callf 70 [(.t 49), (.t 50)])]
def k207 : ACode := .region [M 4 (.alloc 137 2 zl7)]
def f209 : Fr := ⟨(nd (vp 845 0 0) (lf (.v (.one (.s (.d h157))))) .nil), [], none⟩
def f210 : Fr := ⟨(nd (vp 845 0 0) (lf (.v (.one (.s (.d h157))))) (nn (lf (vp 866 0 0)) .nil)), [], none⟩
def m211 : PM AObj := (nn (nd x24 (nn (nn (nn .nil (lf x41)) .nil) .nil) (nd x29 (lf x29) (nn (nn .nil (lf x171)) .nil))) (nn (nn .nil (nn (nn (lf x49) .nil) .nil)) (nn (nn .nil (nn (lf x43) .nil)) .nil)))
def m212 : PM AObj := (nn (nn m211 (nn (nd x54 (nn (nn (nn .nil (lf x41)) .nil) (nn (nn .nil (lf x62)) (lf x63))) (nn .nil (nn (lf x24) .nil))) .nil)) (nn m65 m68))
def s213 : St := ⟨(nd x16 (nd x17 (nn (nn m84 m32) m36) (nn (nn m172 m47) m198)) (nd x53 (nn (nn m109 m57) m60) m212)), 867, 0⟩
theorem t208 : PC (evO badP allP Ot A 1000000 196) 1000000 k207 f209 s199 .normal f210 s213 := fun K => by kernel_rfl
def k214 : ACode := .region [V 8 1,
E 9 (.callf 121 [(.t 8)]),
V 7 9,
Q 10 (.extract 0 (.t 7)),
Q 11 (.extract 1 (.t 7)),
M 5 (.alloc 24 3 zl6),
S 3 5 10,
V 6 11]
def h216 : Dat := (.sl [[(.int .i64 (.ofNat 3)), (.str [116]), (.sl [] false), (.int .i64 (.ofNat 0)), (.int .i64 (.ofNat 0)), (.str [116]), (.sl [[(.str [105, 100]), (.int .i64 (.ofNat 2)), (.bool true)], [(.str [110, 97, 109, 101]), (.int .i64 (.ofNat 5)), (.bool false)]] false), (.int .i64 (.ofNat 1))]] false)
def u217 : Vl := (.agg [(xi 1), (xi 5), (.s (.d h216))])
def m218 : PM AVal := (nd (.v (.one (.s (.d h157)))) (nn (lf (.tup [u217, (.one (xi 0))])) (lf (vi 0))) (nd (vp 867 0 0) (lf (.tup [u217, (.one (xi 0))])) .nil))
def f219 : Fr := ⟨(nd (vp 845 0 0) m218 (nn (nd (vp 866 0 0) (lf (.v (.one (.s (.d h157))))) .nil) (nd (vi 0) (lf (.v u217)) .nil))), [], none⟩
def x220 : AObj := (.row 24 3 0 [(xi 1), (xi 5), (.s (.d h216))])
def m221 : PM AObj := (nn (nn (nn .nil (nd x33 (lf x33) (nn (nn .nil (lf x220)) .nil))) (nn (nn .nil (nn (nn (lf x34) .nil) .nil)) .nil)) (nn (nd x35 (nn .nil (nn (nn .nil (lf x30)) .nil)) .nil) (nn (nn .nil (nn (nn (lf x24) .nil) .nil)) .nil)))
def s222 : St := ⟨(nd x16 (nd x17 (nn (nn m84 m32) m221) (nn (nn m172 m47) m198)) (nd x53 (nn (nn m109 m57) m60) m212)), 868, 0⟩
theorem t215 : PC (evO badP allP Ot A 1000000 196) 1000000 k214 f210 s213 .normal f219 s222 := fun K => by kernel_rfl
def k223 : ACode := .block 0 (
.seq (
.region [V 13 6,
Q 14 (.bin .neq .scalar (.t 13) (ci 0)),
V 12 14]) (
.cond (.t 12) (
.seq (
.region [V 15 6,
Q 16 (.build zl7 [(1, 1, (.t 15))]),
S 2 4 16]) (
.ret)) (
.seq (
.draw [D 0 18 (.faddr 0 (.t 5)) 0,
D 1 19 (.load false 1 (.t 18)) 1,
W 2 20 0 0,
⟨3, ⟨some 21, .e (.callf 24 [(.t 20)]), none, 4⟩⟩,
D 4 22 (.bin .leq .scalar (.t 19) (.t 21)) 15,
W 5 17 22 31]) (
.cond (.t 17) (
.seq (
.region [V 23 0,
Q 24 (.nilck (.t 23)),
Q 25 (.faddr 4 (.t 24)),
Q 26 (.load false 1 (.t 25)),
Q 27 (.bin .add .scalar (.t 26) (ci 1)),
Q 28 (.nilck (.t 23)),
Q 29 (.faddr 4 (.t 28)),
S 1 29 27]) (
.seq (
.region [Q 30 (.faddr 0 (.t 5)),
Q 31 (.load false 1 (.t 30)),
Q 32 (.build zl7 [(0, 1, (.t 31))]),
S 2 4 32]) (
.ret))) (
.skip)))))
def m225 : PM AVal := (nd (vp 867 0 0) (nd (.tup [u217, (.one (xi 0))]) (lf (vb false)) .nil) (nd (vi 0) (lf (vi 0)) .nil))
def m226 : PM AVal := (nn (nd (vp 866 0 0) (lf (.v (.one (.s (.d h157))))) (nd (vb false) (lf (vp 845 0 0)) .nil)) (nd (vi 0) (nd (.v u217) (lf (vp 867 0 0)) .nil) (nd (vb false) (lf (vb false)) .nil)))
def m227 : PM AVal := (nd (vp 845 0 0) (nd (.v (.one (.s (.d h157)))) (nn (lf (.tup [u217, (.one (xi 0))])) (nd (vi 0) (lf (vi 1)) .nil)) m225) m226)
def f228 : Fr := ⟨m227, [], none⟩
def m229 : PM AObj := (nn (nn (nn .nil (nd x33 (lf x33) (nn (nn .nil (lf x220)) .nil))) (nn (nn .nil (nn (nn (lf x34) .nil) .nil)) .nil)) (nn (nd x35 (nn .nil (nn (nn .nil (lf x30)) .nil)) (nn .nil (nn (nn .nil (lf x30)) .nil))) (nn (nn .nil (nn (nn (lf x24) .nil) .nil)) .nil)))
def m230 : PM AObj := (nn (nn (nn .nil (nn (nn (nn .nil (lf x33)) .nil) .nil)) (nn (nn .nil (nd x27 (nn (lf x34) .nil) .nil)) (nn .nil (lf x24)))) (nn (nd x29 (nn .nil (nn (nn (lf x49) (lf x58)) .nil)) (nn .nil (nd x24 (nn .nil (lf x58)) .nil))) (nn .nil (nd x38 (lf x59) .nil))))
def x231 : AObj := (.row 96 4 0 [(xi 0), (.s (.d (.int .i64 (.negSucc 0)))), (xi 0), (.s (.mp 875))])
def m232 : PM AObj := (nn m211 (nn (nd x54 (nn (nn (nn .nil (lf x41)) .nil) (nn (nn .nil (lf x62)) (lf x63))) (nn .nil (nn (nd x24 .nil (lf x231)) .nil))) .nil))
def s233 : St := ⟨(nd x16 (nd x17 (nn (nn m84 m32) m229) (nn (nn m172 m47) m198)) (nd x53 (nn (nn m109 m57) m230) (nn m232 (nn m65 m68)))), 877, 0⟩
theorem t224 : PC (evO badP allP Ot A 1000000 196) 1000000 k223 f219 s222 .normal f228 s233 := fun K => by kernel_rfl
def q234 : List DOp := [D 0 33 (.faddr 0 (.t 5)) 0,
D 1 34 (.load false 1 (.t 33)) 1,
W 2 35 0 0,
D 3 36 (.load true 3 (.t 5)) 0,
⟨4, ⟨some 37, .e (.callf 122 [(.t 35), (.t 36)]), none, 12⟩⟩,
D 5 38 (.build zl7 [(0, 1, (.t 34)), (1, 1, (.t 37))]) 31,
⟨6, ⟨none, .e (.store 2 (.t 4) (.t 38)), none, 63⟩⟩]
def s235 : St := ⟨(nd x16 (nd x17 (nn (nn m84 m32) m229) (nn (nn m172 m47) m198)) (nd x53 (nn (nn m109 m57) m230) (nn m232 (nn m65 m68)))), 884, 0⟩
def w236 : Dr := ⟨f228, s235, [], []⟩
def m237 : PM AVal := (nd (vp 867 0 0) (nd (.tup [u217, (.one (xi 0))]) (nd (vb false) (lf (vp 867 0 0)) .nil) .nil) (nd (vi 0) (lf (vi 0)) .nil))
def m238 : PM AVal := (nd (.v (.one (.s (.d h157)))) (nn (lf (.tup [u217, (.one (xi 0))])) (nd (vi 0) (nd (vi 1) (lf (vp 845 0 0)) .nil) .nil)) m237)
def m239 : PM AVal := (nd (vi 0) (nd (.v u217) (nd (vp 867 0 0) (lf (vi 1)) .nil) .nil) (nd (vb false) (lf (vb false)) .nil))
def m240 : PM AVal := (nd (vp 845 0 0) m238 (nn (nd (vp 866 0 0) (lf (.v (.one (.s (.d h157))))) (nd (vb false) (nd (vp 845 0 0) (lf (.v u217)) .nil) .nil)) m239))
def f241 : Fr := ⟨m240, [], none⟩
def p242 : PM AVal := (nd (vp 845 0 0) m238 (nn (nd (vp 866 0 0) (lf (.v (.one (.s (.d h157))))) (nd (vb false) (lf (vp 845 0 0)) .nil)) m239))
def m243 : PM AVal := (nd (vp 845 0 0) (nd (.v (.one (.s (.d h157)))) (nn (lf (.tup [u217, (.one (xi 0))])) (nd (vi 0) (lf (vi 1)) .nil)) m237) m226)
def p244 : PM AVal := m243
def w245 : Dr := ⟨f241, s235, [], [⟨3, 0, p242, .load true 3 (.t 5), (.v u217)⟩, ⟨1, 1, p244, .load false 1 (.t 33), (vi 1)⟩]⟩
def q246 : List DOp := [D 0 33 (.faddr 0 (.t 5)) 0,
D 1 34 (.load false 1 (.t 33)) 1,
W 2 35 0 0,
D 3 36 (.load true 3 (.t 5)) 0]
theorem d247 : PD (evO badP allP Ot A 1000000 196) 877 q234 q246 w236 w245 := fun r K => by kernel_rfl
def m248 : PM AVal := (nd (vp 867 0 0) (nd (.tup [u217, (.one (xi 0))]) (nd (vb false) (lf (vp 867 0 0)) .nil) .nil) (nd (vi 0) (nd (vi 0) (lf (vi 0)) .nil) .nil))
def m249 : PM AVal := (nd (.v (.one (.s (.d h157)))) (nn (lf (.tup [u217, (.one (xi 0))])) (nd (vi 0) (nd (vi 1) (lf (vp 845 0 0)) .nil) .nil)) m248)
def m250 : PM AVal := (nd (vp 845 0 0) m249 (nn (nd (vp 866 0 0) (lf (.v (.one (.s (.d h157))))) (nd (vb false) (nd (vp 845 0 0) (lf (.v u217)) .nil) .nil)) m239))
def f251 : Fr := ⟨m250, [], none⟩
def h252 : Dat := (.str [3, 83, 3, 3, 130, 75, 159, 35, 0, 0, 0, 0, 0, 0, 0, 0, 0, 0, 0, 0, 0, 0, 0, 0, 0, 0, 0, 0, 0, 0, 0, 0, 0, 0, 0, 0, 0, 0, 0, 0, 0, 0, 0, 0, 0, 0, 0, 0, 0, 0, 0, 0, 0, 0, 0, 0, 0, 0, 0, 0, 0, 0, 0, 0, 0, 0, 0, 0, 0, 0, 0, 0, 0, 0, 0, 0, 0, 0, 0, 0, 0, 0, 0, 0, 0, 0, 0, 0, 0, 0, 0, 0, 0, 0, 0, 0, 0, 0, 0, 0, 0, 0, 0, 0, 0, 0, 0, 0, 0, 0, 0, 0, 0, 0, 0, 0, 0, 0, 0, 0, 0, 0, 0, 0, 0, 0, 0, 0])
def h253 : Dat := (.str [50, 76, 2, 0, 0, 101, 241, 114, 27, 4, 0, 1, 14, 1, 3, 82, 0, 3, 2, 23, 0, 0, 21, 1, 5, 1, 3, 16, 1, 116, 1, 2, 2, 105, 100, 2, 1, 4, 110, 97, 109, 101, 5, 3, 6, 0, 0, 3, 0, 1, 2, 39, 224, 213, 233, 0, 0, 0, 0, 0, 0, 0, 0, 0, 0, 0, 0, 0, 0, 0, 0, 0, 0, 0, 0, 0, 0, 0, 0, 0, 0, 0, 0, 0, 0, 0, 0, 0, 0, 0, 0, 0, 0, 0, 0, 0, 0, 0, 0, 0, 0, 0, 0, 0, 0, 0, 0, 0, 0, 0, 0, 0, 0, 0, 0, 0, 0, 0, 0, 0, 0, 0, 0, 0, 0, 0, 0, 0])
def h254 : Dat := (.str [14, 0, 0, 0, 0, 0, 0, 0, 0, 0, 0, 0, 0, 0, 0, 0, 0, 0, 0, 0, 0, 0, 0, 0, 0, 0, 0, 0, 0, 0, 0, 0, 0, 0, 0, 0, 0, 0, 0, 0, 0, 0, 0, 0, 0, 0, 0, 0, 0, 0, 0, 0, 0, 0, 0, 0, 0, 0, 0, 0, 0, 0, 0, 0, 0, 0, 0, 0, 0, 0, 0, 0, 0, 0, 0, 0, 0, 0, 0, 0, 0, 0, 0, 0, 0, 0, 0, 0, 0, 0, 0, 0, 0, 0, 0, 0, 0, 0, 0, 0, 0, 0, 0, 0, 0, 0, 0, 0, 0, 0, 0, 0, 0, 0, 0, 0, 0, 0, 0, 0, 0, 0, 0, 0, 0, 0, 0, 0])
def h255 : Dat := (.str [82, 0, 3, 0, 0, 0, 0, 0, 0, 0, 0, 0, 0, 0, 0, 0, 0, 0, 0, 0, 0, 0, 0, 0, 0, 0, 0, 0, 0, 0, 0, 0, 0, 0, 0, 0, 0, 0, 0, 0, 0, 0, 0, 0, 0, 0, 0, 0, 0, 0, 0, 0, 0, 0, 0, 0, 0, 0, 0, 0, 0, 0, 0, 0, 0, 0, 0, 0, 0, 0, 0, 0, 0, 0, 0, 0, 0, 0, 0, 0, 0, 0, 0, 0, 0, 0, 0, 0, 0, 0, 0, 0, 0, 0, 0, 0, 0, 0, 0, 0, 0, 0, 0, 0, 0, 0, 0, 0, 0, 0, 0, 0, 0, 0, 0, 0, 0, 0, 0, 0, 0, 0, 0, 0, 0, 0, 0, 0])
def h256 : Dat := (.str [0, 0, 21, 1, 5, 1, 3, 16, 1, 116, 1, 2, 2, 105, 100, 2, 1, 4, 110, 97, 109, 101, 5, 0, 0, 0, 0, 0, 0, 0, 0, 0, 0, 0, 0, 0, 0, 0, 0, 0, 0, 0, 0, 0, 0, 0, 0, 0, 0, 0, 0, 0, 0, 0, 0, 0, 0, 0, 0, 0, 0, 0, 0, 0, 0, 0, 0, 0, 0, 0, 0, 0, 0, 0, 0, 0, 0, 0, 0, 0, 0, 0, 0, 0, 0, 0, 0, 0, 0, 0, 0, 0, 0, 0, 0, 0, 0, 0, 0, 0, 0, 0, 0, 0, 0, 0, 0, 0, 0, 0, 0, 0, 0, 0, 0, 0, 0, 0, 0, 0, 0, 0, 0, 0, 0, 0, 0, 0])
def h257 : Dat := (.str [0, 0, 3, 0, 1, 2, 0, 0, 0, 0, 0, 0, 0, 0, 0, 0, 0, 0, 0, 0, 0, 0, 0, 0, 0, 0, 0, 0, 0, 0, 0, 0, 0, 0, 0, 0, 0, 0, 0, 0, 0, 0, 0, 0, 0, 0, 0, 0, 0, 0, 0, 0, 0, 0, 0, 0, 0, 0, 0, 0, 0, 0, 0, 0, 0, 0, 0, 0, 0, 0, 0, 0, 0, 0, 0, 0, 0, 0, 0, 0, 0, 0, 0, 0, 0, 0, 0, 0, 0, 0, 0, 0, 0, 0, 0, 0, 0, 0, 0, 0, 0, 0, 0, 0, 0, 0, 0, 0, 0, 0, 0, 0, 0, 0, 0, 0, 0, 0, 0, 0, 0, 0, 0, 0, 0, 0, 0, 0])
def x258 : AObj := (.map (.int .i64) [⟨[(.int .i64 (.ofNat 1))], 0, (.one (.s (.d h252)))⟩, ⟨[(.int .i64 (.ofNat 2))], 1, (.one (.s (.d h253)))⟩, ⟨[(.int .i64 (.ofNat 100))], 2, (.one (.s (.d h254)))⟩, ⟨[(.int .i64 (.ofNat 101))], 3, (.one (.s (.d h255)))⟩, ⟨[(.int .i64 (.ofNat 0))], 4, (.one (.s (.d h15)))⟩, ⟨[(.int .i64 (.ofNat 102))], 5, (.one (.s (.d h256)))⟩, ⟨[(.int .i64 (.ofNat 103))], 6, (.one (.s (.d h257)))⟩] 7)
def x259 : AObj := (.row 216 7 0 [(xi 300), (.s (.mp 0)), (.s (.d (.sl [] true))), (xi 11), (xi 7), (.s (.d (.bool false))), (.s (.d (.int .i64 (.negSucc 17))))])
def x260 : AObj := (.row 36 3 0 [(xs [116]), (.s (.sl 923 0 0 2 false)), (xi 1)])
def x261 : AObj := (.row 219 2 0 [(xi 1), (.s (.d h252))])
def m262 : PM AObj := (nn (nn .nil (nn .nil (nd x30 (nn (nn (nn (nn (lf x63) .nil) .nil) .nil) .nil) .nil))) (nd x26 (nn .nil (nn (nn (nn (nn (nn (lf x24) .nil) .nil) .nil) .nil) .nil)) (nn (lf x27) .nil)))
def m263 : PM AObj := (nn (nn (nn (nn .nil (lf x24)) (nd x25 .nil (lf x260))) (nn (nn .nil (nd x83 .nil (nn (nn (nn (nn (lf x261) .nil) .nil) .nil) .nil))) .nil)) m262)
def m264 : PM AObj := (nn (nn (nn (nn (nd x18 (lf x23) .nil) (nn .nil (lf x30))) (nn (nn .nil (nn (nn (nn (nn (nn (lf x24) .nil) .nil) .nil) .nil) .nil)) .nil)) .nil) m263)
def h265 : Dat := (.sl [[(.int .u8 (.ofNat 1))], [(.int .u8 (.ofNat 5))], [(.int .u8 (.ofNat 1))], [(.int .u8 (.ofNat 3))], [(.int .u8 (.ofNat 16))], [(.int .u8 (.ofNat 1))], [(.int .u8 (.ofNat 116))], [(.int .u8 (.ofNat 1))], [(.int .u8 (.ofNat 2))], [(.int .u8 (.ofNat 2))], [(.int .u8 (.ofNat 105))], [(.int .u8 (.ofNat 100))], [(.int .u8 (.ofNat 2))], [(.int .u8 (.ofNat 1))], [(.int .u8 (.ofNat 4))], [(.int .u8 (.ofNat 110))], [(.int .u8 (.ofNat 97))], [(.int .u8 (.ofNat 109))], [(.int .u8 (.ofNat 101))], [(.int .u8 (.ofNat 5))], [(.int .u8 (.ofNat 0))]] false)
def x266 : AObj := (.row 192 1 0 [(.s (.d h265))])
def m267 : PM AObj := (nn (nd x29 (nn (nn .nil (lf x24)) .nil) (nn (nn .nil (nn .nil (nn (nn (nn (nn (lf x261) .nil) .nil) .nil) .nil))) .nil)) (nn (nn (nn .nil (lf x30)) (nn .nil (nn .nil (nn .nil (nn (nn (lf x266) .nil) .nil))))) (lf x26)))
def x268 : AObj := (.row 219 2 0 [(xi 101), (.s (.d h255))])
def x269 : AObj := (.row 5 1 0 [(.s (.d (.int .u8 (.ofNat 21))))])
def x270 : AObj := (.row 219 2 0 [(xi 103), (.s (.d h257))])
def m271 : PM AObj := (nn (nn .nil (nn (nd x31 .nil (nn (nn (nn (nn (lf x268) .nil) .nil) .nil) .nil)) .nil)) (nn (nn (nn (nn (nn .nil (nn (lf x269) .nil)) .nil) .nil) .nil) (nn (nn .nil (nn (nn (nn (nn (lf x270) .nil) .nil) .nil) .nil)) .nil)))
def x272 : AObj := (.row 219 2 0 [(xi 2), (.s (.d h253))])
def x273 : AObj := (.row 219 2 0 [(xi 102), (.s (.d h256))])
def x274 : AObj := (.row 63 2 0 [(xi 0), (.s (.sl 10358 0 0 1 false))])
def m275 : PM AObj := (nn (nn (nn (nn .nil (nn (nn (nn (nn (lf x272) .nil) .nil) .nil) .nil)) .nil) (nn (nd x24 .nil (nn (nn (nn (nn (lf x273) .nil) .nil) .nil) .nil)) .nil)) (nn (nn (nn (nn (nn .nil (nn (lf x274) .nil)) .nil) .nil) .nil) .nil))
def x276 : AObj := (.row 3 1 0 [(xi 2)])
def m277 : PM AObj := (nn (nn (nn .nil (nn .nil (nn (nn (nn (nn (lf x24) .nil) .nil) .nil) .nil))) .nil) (nn (nn (nn (nn (nn .nil (nn (lf x276) .nil)) .nil) .nil) .nil) .nil))
def x278 : AObj := (.mit (some 902) 0 [] 0)
def m279 : PM AObj := (nn (nn .nil (nn .nil (lf x278))) (nn (nn (nn (nn (nn .nil (nn (lf x274) .nil)) .nil) .nil) .nil) (nn (nn .nil (nn (nn (nn (nn (lf x24) .nil) .nil) .nil) .nil)) .nil)))
def m280 : PM AObj := (nn (nn m277 (nd x33 (lf x33) (nn (nn .nil (lf x220)) (nn (nn .nil (nn (nn (nn (nn (lf x24) .nil) .nil) .nil) .nil)) .nil)))) (nn (nn (nn (nn .nil (nn .nil (nn (nn (nn (nn (lf x24) .nil) .nil) .nil) .nil))) .nil) (nn (nn (lf x34) .nil) .nil)) m279))
def x281 : AObj := (.map .str [⟨[(.str [116])], 0, (.one (.s (.ptr 945 0 0)))⟩] 1)
def x282 : AObj := (.row 9 1 0 [(.s (.d h157))])
def m283 : PM AObj := (nd x35 (nn (nn .nil (nn .nil (lf x281))) (nn (nn .nil (lf x30)) (nn .nil (lf x282)))) (nn .nil (nn (nn .nil (nd x30 .nil (nn (nn (nn (nn (lf x64) .nil) .nil) .nil) .nil))) .nil)))
def x284 : AObj := (.row 185 3 0 [(xs [105, 100]), (xi 2), (.s (.d (.bool true))), (xs [110, 97, 109, 101]), (xi 5), (.s (.d (.bool false)))])
def x285 : AObj := (.row 5 1 0 [(.s (.d (.int .u8 (.ofNat 3)))), (.s (.d (.int .u8 (.ofNat 0)))), (.s (.d (.int .u8 (.ofNat 1)))), (.s (.d (.int .u8 (.ofNat 2))))])
def m286 : PM AObj := (nn (nn (nn (nn .nil (nn (nn (nn (nn (lf x272) .nil) .nil) .nil) .nil)) .nil) .nil) (nn (nn (nn .nil (nn (nn (nn (nn (lf x24) .nil) .nil) .nil) .nil)) .nil) .nil))
def m287 : PM AObj := (nn m280 (nn m283 (nn (nn (nn .nil (nn .nil (lf x284))) (nn (nn (lf x24) (nn (nn (nn (nn (nn (lf x285) .nil) .nil) .nil) .nil) .nil)) .nil)) m286)))
def x288 : AObj := (.row 305 8 0 [(.s (.ptr 1 0 0)), (xi 0), (xi 98), (xi 3), (xi 3), (xi 0), (.s (.d (.sl [] true))), (.s (.d (.bool false)))])
def x289 : AObj := (.row 3 1 1 [(xi 3), (xi 0)])
def m290 : PM AObj := (nn (nn (nn .nil (nn .nil (lf x220))) (nn (nn .nil (nn (nn (nn (nn (nn (lf x289) .nil) .nil) .nil) .nil) .nil)) .nil)) (nd x38 (lf x39) (nn (nn .nil (lf x171)) .nil)))
def x291 : AObj := (.row 192 1 0 [(.s (.sl 16560 0 0 3 true))])
def x292 : AObj := (.row 92 2 0 [(.s (.sl 942 0 0 1 true)), (.s (.mp 943))])
def m293 : PM AObj := (nn (nn (nn .nil (nn (nn (nn (nn (lf x272) .nil) .nil) .nil) .nil)) .nil) (nn (nn (nn (nn (nn (nn (lf x291) .nil) .nil) .nil) .nil) .nil) (lf x292)))
def x294 : AObj := (.row 5 1 0 [(.s (.d (.int .u8 (.ofNat 6)))), (.s (.d (.int .u8 (.ofNat 0)))), (.s (.d (.int .u8 (.ofNat 0)))), (.s (.d (.int .u8 (.ofNat 0)))), (.s (.d (.int .u8 (.ofNat 0)))), (.s (.d (.int .u8 (.ofNat 0)))), (.s (.d (.int .u8 (.ofNat 0)))), (.s (.d (.int .u8 (.ofNat 0)))), (.s (.d (.int .u8 (.ofNat 0)))), (.s (.d (.int .u8 (.ofNat 0)))), (.s (.d (.int .u8 (.ofNat 0)))), (.s (.d (.int .u8 (.ofNat 0)))), (.s (.d (.int .u8 (.ofNat 0)))), (.s (.d (.int .u8 (.ofNat 0)))), (.s (.d (.int .u8 (.ofNat 0)))), (.s (.d (.int .u8 (.ofNat 0)))), (.s (.d (.int .u8 (.ofNat 0)))), (.s (.d (.int .u8 (.ofNat 0)))), (.s (.d (.int .u8 (.ofNat 0)))), (.s (.d (.int .u8 (.ofNat 0)))), (.s (.d (.int .u8 (.ofNat 0)))), (.s (.d (.int .u8 (.ofNat 0)))), (.s (.d (.int .u8 (.ofNat 0)))), (.s (.d (.int .u8 (.ofNat 0)))), (.s (.d (.int .u8 (.ofNat 0)))), (.s (.d (.int .u8 (.ofNat 0)))), (.s (.d (.int .u8 (.ofNat 0)))), (.s (.d (.int .u8 (.ofNat 0)))), (.s (.d (.int .u8 (.ofNat 0)))), (.s (.d (.int .u8 (.ofNat 0)))), (.s (.d (.int .u8 (.ofNat 0)))), (.s (.d (.int .u8 (.ofNat 0)))), (.s (.d (.int .u8 (.ofNat 0)))), (.s (.d (.int .u8 (.ofNat 0)))), (.s (.d (.int .u8 (.ofNat 0)))), (.s (.d (.int .u8 (.ofNat 0)))), (.s (.d (.int .u8 (.ofNat 0)))), (.s (.d (.int .u8 (.ofNat 0)))), (.s (.d (.int .u8 (.ofNat 0)))), (.s (.d (.int .u8 (.ofNat 0)))), (.s (.d (.int .u8 (.ofNat 0)))), (.s (.d (.int .u8 (.ofNat 0)))), (.s (.d (.int .u8 (.ofNat 0)))), (.s (.d (.int .u8 (.ofNat 0)))), (.s (.d (.int .u8 (.ofNat 0)))), (.s (.d (.int .u8 (.ofNat 0)))), (.s (.d (.int .u8 (.ofNat 0)))), (.s (.d (.int .u8 (.ofNat 0)))), (.s (.d (.int .u8 (.ofNat 0)))), (.s (.d (.int .u8 (.ofNat 0)))), (.s (.d (.int .u8 (.ofNat 0)))), (.s (.d (.int .u8 (.ofNat 0)))), (.s (.d (.int .u8 (.ofNat 0)))), (.s (.d (.int .u8 (.ofNat 0)))), (.s (.d (.int .u8 (.ofNat 0)))), (.s (.d (.int .u8 (.ofNat 0)))), (.s (.d (.int .u8 (.ofNat 0)))), (.s (.d (.int .u8 (.ofNat 0)))), (.s (.d (.int .u8 (.ofNat 0)))), (.s (.d (.int .u8 (.ofNat 0)))), (.s (.d (.int .u8 (.ofNat 0)))), (.s (.d (.int .u8 (.ofNat 0)))), (.s (.d (.int .u8 (.ofNat 0)))), (.s (.d (.int .u8 (.ofNat 0)))), (.s (.d (.int .u8 (.ofNat 0)))), (.s (.d (.int .u8 (.ofNat 0)))), (.s (.d (.int .u8 (.ofNat 0)))), (.s (.d (.int .u8 (.ofNat 0)))), (.s (.d (.int .u8 (.ofNat 0)))), (.s (.d (.int .u8 (.ofNat 0)))), (.s (.d (.int .u8 (.ofNat 0)))), (.s (.d (.int .u8 (.ofNat 0)))), (.s (.d (.int .u8 (.ofNat 0)))), (.s (.d (.int .u8 (.ofNat 0)))), (.s (.d (.int .u8 (.ofNat 0)))), (.s (.d (.int .u8 (.ofNat 0)))), (.s (.d (.int .u8 (.ofNat 0)))), (.s (.d (.int .u8 (.ofNat 0)))), (.s (.d (.int .u8 (.ofNat 0)))), (.s (.d (.int .u8 (.ofNat 0)))), (.s (.d (.int .u8 (.ofNat 0)))), (.s (.d (.int .u8 (.ofNat 0)))), (.s (.d (.int .u8 (.ofNat 0)))), (.s (.d (.int .u8 (.ofNat 0)))), (.s (.d (.int .u8 (.ofNat 0)))), (.s (.d (.int .u8 (.ofNat 0)))), (.s (.d (.int .u8 (.ofNat 0)))), (.s (.d (.int .u8 (.ofNat 0)))), (.s (.d (.int .u8 (.ofNat 0)))), (.s (.d (.int .u8 (.ofNat 0)))), (.s (.d (.int .u8 (.ofNat 0)))), (.s (.d (.int .u8 (.ofNat 0)))), (.s (.d (.int .u8 (.ofNat 0)))), (.s (.d (.int .u8 (.ofNat 0)))), (.s (.d (.int .u8 (.ofNat 0)))), (.s (.d (.int .u8 (.ofNat 0)))), (.s (.d (.int .u8 (.ofNat 0)))), (.s (.d (.int .u8 (.ofNat 0)))), (.s (.d (.int .u8 (.ofNat 0)))), (.s (.d (.int .u8 (.ofNat 0)))), (.s (.d (.int .u8 (.ofNat 0)))), (.s (.d (.int .u8 (.ofNat 0)))), (.s (.d (.int .u8 (.ofNat 0)))), (.s (.d (.int .u8 (.ofNat 0)))), (.s (.d (.int .u8 (.ofNat 0)))), (.s (.d (.int .u8 (.ofNat 0)))), (.s (.d (.int .u8 (.ofNat 0)))), (.s (.d (.int .u8 (.ofNat 0)))), (.s (.d (.int .u8 (.ofNat 0)))), (.s (.d (.int .u8 (.ofNat 0)))), (.s (.d (.int .u8 (.ofNat 0)))), (.s (.d (.int .u8 (.ofNat 0)))), (.s (.d (.int .u8 (.ofNat 0)))), (.s (.d (.int .u8 (.ofNat 0)))), (.s (.d (.int .u8 (.ofNat 0)))), (.s (.d (.int .u8 (.ofNat 0)))), (.s (.d (.int .u8 (.ofNat 0)))), (.s (.d (.int .u8 (.ofNat 0)))), (.s (.d (.int .u8 (.ofNat 0)))), (.s (.d (.int .u8 (.ofNat 0)))), (.s (.d (.int .u8 (.ofNat 0)))), (.s (.d (.int .u8 (.ofNat 0)))), (.s (.d (.int .u8 (.ofNat 0)))), (.s (.d (.int .u8 (.ofNat 0)))), (.s (.d (.int .u8 (.ofNat 0)))), (.s (.d (.int .u8 (.ofNat 0)))), (.s (.d (.int .u8 (.ofNat 0)))), (.s (.d (.int .u8 (.ofNat 0))))])
def x295 : AObj := (.row 65 6 0 [(.s (.ptr 255 0 0)), (.s (.ptr 457 0 0)), (.s (.ptr 894 0 0)), (xi 0), (.s (.sl 10358 0 0 1 false)), (.s (.d (.bool false)))])
def m296 : PM AObj := (nn (nn (nn (nn (nn (nn .nil (nn (lf x294) .nil)) .nil) .nil) (lf x295)) (lf x45)) (nn (nn .nil (nn .nil (nn (nn (nn (nn (lf x33) .nil) .nil) .nil) .nil))) .nil))
def h297 : Dat := (.str [4, 0, 1, 14, 1, 3, 82, 0, 3, 2, 23, 0, 0, 21, 1, 5, 1, 3, 16, 1, 116, 1, 2, 2, 105, 100, 2, 1, 4, 110, 97, 109, 101, 5, 3, 6, 0, 0, 3, 0, 1, 2])
def x298 : AObj := (.row 9 1 0 [(.s (.d h297))])
def m299 : PM AObj := (nn (nn (nn (nn (lf x34) .nil) .nil) .nil) (nn (nn (nn (nd x46 .nil (nn (nn (nn (nn (lf x298) .nil) .nil) .nil) .nil)) .nil) (nn (lf x40) .nil)) .nil))
def m300 : PM AObj := (nn (nd x288 m290 (nn (nn (nn .nil (nn (lf x40) .nil)) (nn (nn (lf x24) (lf x85)) (lf x34))) (nn m293 .nil))) (nn (nn (nn (nn (nn .nil (lf x41)) .nil) (nn .nil (nd x42 (lf x43) .nil))) m296) m299))
def x301 : AObj := (.fro 1 0 [[(.int .u8 (.ofNat 1))], [(.int .u8 (.ofNat 5))], [(.int .u8 (.ofNat 1))], [(.int .u8 (.ofNat 3))], [(.int .u8 (.ofNat 16))], [(.int .u8 (.ofNat 1))], [(.int .u8 (.ofNat 116))], [(.int .u8 (.ofNat 1))], [(.int .u8 (.ofNat 2))], [(.int .u8 (.ofNat 2))], [(.int .u8 (.ofNat 105))], [(.int .u8 (.ofNat 100))], [(.int .u8 (.ofNat 2))], [(.int .u8 (.ofNat 1))], [(.int .u8 (.ofNat 4))], [(.int .u8 (.ofNat 110))], [(.int .u8 (.ofNat 97))], [(.int .u8 (.ofNat 109))], [(.int .u8 (.ofNat 101))], [(.int .u8 (.ofNat 5))], [(.int .u8 (.ofNat 0))]])
def m302 : PM AObj := (nn (nn .nil (nn (nn (nn (nn (nn .nil (nn (lf x33) .nil)) .nil) .nil) .nil) .nil)) (nn (nn (nn .nil (lf x48)) (nn .nil (nn .nil (nn .nil (nn (nn (lf x301) .nil) .nil))))) .nil))
def x303 : AObj := (.row 56 6 0 [(.s (.ptr 809 0 0)), (xs [0, 0, 0, 21, 1]), (.s (.d (.bool false))), (xi 1), (xi 0), (xi 0)])
def m304 : PM AObj := (nn (nn (nn .nil (nn .nil (nn (nn (nn (nn (lf x270) .nil) .nil) .nil) .nil))) (nn .nil (lf x108))) (nn (nn .nil (nd x303 .nil (nn (nn (nn (nn (lf x261) .nil) .nil) .nil) .nil))) .nil))
def x305 : AObj := (.row 3 1 0 [(xi 3)])
def m306 : PM AObj := (nn .nil (nd x26 (nn .nil (nn .nil (nn (nn (nn (nn (lf x305) .nil) .nil) .nil) .nil))) (nn (nn .nil (nn (nn (nn (nn (lf x268) .nil) .nil) .nil) .nil)) .nil)))
def x307 : AObj := (.row 5 1 0 [(.s (.d (.int .u8 (.ofNat 0)))), (.s (.d (.int .u8 (.ofNat 0))))])
def x308 : AObj := (.row 219 2 0 [(xi 100), (.s (.d h254))])
def m309 : PM AObj := (nn (nn .nil (lf x220)) (nn (nn .nil (nn (nn (nn (nn (lf x273) .nil) .nil) .nil) .nil)) (nn (nn (nn (nn (nn (lf x298) .nil) .nil) .nil) .nil) .nil)))
def m310 : PM AObj := (nn (nn .nil (nn (nn (nn (nn (nn .nil (nn (lf x307) .nil)) .nil) .nil) .nil) (nn (nn .nil (nn (nn (nn (nn (lf x308) .nil) .nil) .nil) .nil)) .nil))) (nd x29 (nn .nil (lf x24)) m309))
def m311 : PM AObj := (nn (nn m302 (nn (nn .nil (nn (nn (lf x49) .nil) .nil)) (nn .nil (nn (nn (nn (nn (nn .nil (nn (lf x276) .nil)) .nil) .nil) .nil) .nil)))) (nn (nd x33 m304 m306) m310))
def m312 : PM AObj := (nn (nn .nil (nn (nn (nn (nn .nil (nn (lf x274) .nil)) .nil) .nil) (lf x58))) (nn (nn (nn .nil (nn (nn (nn (nn (lf x24) .nil) .nil) .nil) .nil)) (nn (nn (nn (nn (nn (lf x305) .nil) .nil) .nil) .nil) .nil)) .nil))
def x313 : AObj := (.fro 1 0 [[(.int .u8 (.ofNat 0))], [(.int .u8 (.ofNat 1))], [(.int .u8 (.ofNat 2))]])
def m314 : PM AObj := (nn (nn m312 (nd x54 (lf x54) (nn (nn .nil (lf x108)) .nil))) (nn (nn .nil (nn (nn .nil (lf x87)) .nil)) (nn (nn (lf x24) (nn (nn (nn (nn (nn (nn (lf x313) .nil) .nil) .nil) .nil) .nil) .nil)) .nil)))
def x315 : AObj := (.row 114 3 0 [(.s (.ptr 906 0 0)), (xi 5), (.s (.mp 902))])
def m316 : PM AObj := (nn (nn (nn (nn .nil (lf x41)) (nn .nil (lf x315))) (nn .nil (nn (lf x43) .nil))) (nn (nn (nn .nil (lf x55)) (lf x24)) .nil))
def m317 : PM AObj := (nd x56 (nd x24 (nd x24 (nn (lf x34) .nil) .nil) .nil) (nn (nn (nn (nn .nil (nn (nn (nn (nn (lf x298) .nil) .nil) .nil) .nil)) .nil) (nn (lf x40) .nil)) .nil))
def x318 : AObj := (.row 3 1 1 [(xi 2), (xi 0)])
def e319 : Cell := (.fn (.func 203) 203 [] [⟨false, [(.ptr 16815 0 0)]⟩, ⟨false, [(.ptr 16822 0 0)]⟩])
def e320 : Cell := (.fn (.func 206) 206 [] [⟨false, [(.ptr 16815 0 0)]⟩])
def x321 : AObj := (.row 84 1 0 [e319, e20, e320, e22])
def m322 : PM AObj := (nn (nn .nil (nn (nn (nn (nn (nn .nil (nn (lf x318) .nil)) .nil) .nil) .nil) .nil)) (nn (nn (nn .nil (lf x33)) .nil) (nn .nil (nn .nil (nn (nn (nn (nn (nn (lf x321) .nil) .nil) .nil) .nil) .nil)))))
def m323 : PM AObj := (nn (nn .nil (nn .nil (nn (nn (nn (nn (nn (lf x45) .nil) .nil) .nil) .nil) .nil))) (nd x27 (nn (lf x34) (nn (nn (nn (nn (nn (lf x27) .nil) .nil) .nil) .nil) (nn (nn (nn (nn (lf x24) .nil) .nil) .nil) .nil))) .nil))
def m324 : PM AObj := (nn (nn (nn .nil (nn .nil (nn (nn (nn (nn (lf x27) .nil) .nil) .nil) .nil))) .nil) (nd x24 (nn (nn (nn (nn .nil (nn (lf x274) .nil)) .nil) .nil) (lf x220)) .nil))
def x325 : AObj := (.mit (some 895) 0 [] 0)
def m326 : PM AObj := (nn (nn .nil (nn .nil (lf x325))) (nn (nn (lf x49) (nd x58 .nil (nn (nn (nn (nn (lf x24) .nil) .nil) .nil) .nil))) (nn .nil (lf x274))))
def m327 : PM AObj := (nn (nn .nil (nn (nn .nil (nn (nn (nn (nn (lf x24) .nil) .nil) .nil) .nil)) .nil)) (nn .nil (nn (nn .nil (nn (nn (nn (nn (lf x24) .nil) .nil) .nil) .nil)) .nil)))
def x328 : AObj := (.row 219 2 3 [(xi 100), (.s (.d h254)), (xi 101), (.s (.d h255)), (xi 102), (.s (.d h256)), (xi 103), (.s (.d h257))])
def x329 : AObj := (.row 54 1 0 [(.s (.ptr 809 0 0))])
def m330 : PM AObj := (nd x38 (nd x59 .nil (nn (nn .nil (nn (nn (nn (nn (lf x24) .nil) .nil) .nil) .nil)) .nil)) (nn (nn (nn .nil (nn (nn (nn (nn (lf x328) .nil) .nil) .nil) .nil)) (lf x329)) .nil))
def m331 : PM AObj := (nn (nn m314 (nn m316 m317)) (nn (nn m322 (nn m323 m324)) (nn (nd x29 m326 (nn .nil (nd x24 (nn .nil (nd x58 .nil (nn (nn (nn (nn (lf x276) .nil) .nil) .nil) .nil))) .nil))) (nn m327 m330))))
def m332 : PM AObj := (nn (nn (nn .nil (lf x41)) .nil) (nn (nn (nn (nn (nn .nil (nn (lf x24) .nil)) .nil) .nil) (nn (nn (nn (nn (nn (lf x33) .nil) .nil) .nil) .nil) .nil)) .nil))
def x333 : AObj := (.row 102 4 0 [(xi 5), (xs [116]), (.s (.sl 923 0 0 2 false)), (xi 1)])
def h334 : Dat := (.sl [[(.int .u8 (.ofNat 0))], [(.int .u8 (.ofNat 1))], [(.int .u8 (.ofNat 2))]] false)
def x335 : AObj := (.row 192 1 0 [(.s (.d h334))])
def m336 : PM AObj := (nn (nn .nil (nn (nd x43 (nn (nn (nn (nn (lf x335) .nil) .nil) .nil) .nil) .nil) .nil)) (nn (nn (nn (nn (nn .nil (nn (lf x24) .nil)) .nil) .nil) .nil) .nil))
def x337 : AObj := (.row 96 4 0 [(xi 0), (.s (.d (.int .i64 (.negSucc 0)))), (xi 0), (.s (.mp 907))])
def x338 : AObj := (.row 3 1 3 [(xi 0), (xi 1), (xi 2), (xi 3)])
def m339 : PM AObj := (nd x54 (nn (nn (nn .nil (lf x41)) (nn .nil (lf x337))) (nn (nn .nil (lf x62)) (lf x63))) (nn .nil (nn (nd x24 .nil (nd x231 .nil (nn (nn (nn (nn (lf x338) .nil) .nil) .nil) .nil))) .nil)))
def x340 : AObj := (.row 5 1 0 [(.s (.d (.int .u8 (.ofNat 0)))), (.s (.d (.int .u8 (.ofNat 3))))])
def m341 : PM AObj := (nn (nn .nil (nn .nil (nn (nn (nn (nn (nn (lf x340) .nil) .nil) .nil) .nil) .nil))) (nn (nn .nil (nn (nn (nn (nn (nn (lf x307) .nil) .nil) .nil) .nil) .nil)) .nil))
def m342 : PM AObj := (nn (nn (nd x24 m332 (nd x29 (nd x29 .nil (nn .nil (lf x333))) (nn (nn .nil (lf x171)) .nil))) (nn (nn .nil (nn (nn (lf x49) .nil) .nil)) m336)) (nn m339 (nn m341 (nn (nn (nn (nn .nil (nn (nn (nn (nn (lf x272) .nil) .nil) .nil) .nil)) .nil) .nil) .nil))))
def x343 : AObj := (.map (.strs 2) [] 0)
def x344 : AObj := (.row 5 1 0 [(.s (.d (.int .u8 (.ofNat 14)))), (.s (.d (.int .u8 (.ofNat 0)))), (.s (.d (.int .u8 (.ofNat 0)))), (.s (.d (.int .u8 (.ofNat 0)))), (.s (.d (.int .u8 (.ofNat 0)))), (.s (.d (.int .u8 (.ofNat 0)))), (.s (.d (.int .u8 (.ofNat 0)))), (.s (.d (.int .u8 (.ofNat 0)))), (.s (.d (.int .u8 (.ofNat 0)))), (.s (.d (.int .u8 (.ofNat 0)))), (.s (.d (.int .u8 (.ofNat 0)))), (.s (.d (.int .u8 (.ofNat 0)))), (.s (.d (.int .u8 (.ofNat 0)))), (.s (.d (.int .u8 (.ofNat 0)))), (.s (.d (.int .u8 (.ofNat 0)))), (.s (.d (.int .u8 (.ofNat 0)))), (.s (.d (.int .u8 (.ofNat 0)))), (.s (.d (.int .u8 (.ofNat 0)))), (.s (.d (.int .u8 (.ofNat 0)))), (.s (.d (.int .u8 (.ofNat 0)))), (.s (.d (.int .u8 (.ofNat 0)))), (.s (.d (.int .u8 (.ofNat 0)))), (.s (.d (.int .u8 (.ofNat 0)))), (.s (.d (.int .u8 (.ofNat 0)))), (.s (.d (.int .u8 (.ofNat 0)))), (.s (.d (.int .u8 (.ofNat 0)))), (.s (.d (.int .u8 (.ofNat 0)))), (.s (.d (.int .u8 (.ofNat 0)))), (.s (.d (.int .u8 (.ofNat 0)))), (.s (.d (.int .u8 (.ofNat 0)))), (.s (.d (.int .u8 (.ofNat 0)))), (.s (.d (.int .u8 (.ofNat 0)))), (.s (.d (.int .u8 (.ofNat 0)))), (.s (.d (.int .u8 (.ofNat 0)))), (.s (.d (.int .u8 (.ofNat 0)))), (.s (.d (.int .u8 (.ofNat 0)))), (.s (.d (.int .u8 (.ofNat 0)))), (.s (.d (.int .u8 (.ofNat 0)))), (.s (.d (.int .u8 (.ofNat 0)))), (.s (.d (.int .u8 (.ofNat 0)))), (.s (.d (.int .u8 (.ofNat 0)))), (.s (.d (.int .u8 (.ofNat 0)))), (.s (.d (.int .u8 (.ofNat 0)))), (.s (.d (.int .u8 (.ofNat 0)))), (.s (.d (.int .u8 (.ofNat 0)))), (.s (.d (.int .u8 (.ofNat 0)))), (.s (.d (.int .u8 (.ofNat 0)))), (.s (.d (.int .u8 (.ofNat 0)))), (.s (.d (.int .u8 (.ofNat 0)))), (.s (.d (.int .u8 (.ofNat 0)))), (.s (.d (.int .u8 (.ofNat 0)))), (.s (.d (.int .u8 (.ofNat 0)))), (.s (.d (.int .u8 (.ofNat 0)))), (.s (.d (.int .u8 (.ofNat 0)))), (.s (.d (.int .u8 (.ofNat 0)))), (.s (.d (.int .u8 (.ofNat 0)))), (.s (.d (.int .u8 (.ofNat 0)))), (.s (.d (.int .u8 (.ofNat 0)))), (.s (.d (.int .u8 (.ofNat 0)))), (.s (.d (.int .u8 (.ofNat 0)))), (.s (.d (.int .u8 (.ofNat 0)))), (.s (.d (.int .u8 (.ofNat 0)))), (.s (.d (.int .u8 (.ofNat 0)))), (.s (.d (.int .u8 (.ofNat 0)))), (.s (.d (.int .u8 (.ofNat 0)))), (.s (.d (.int .u8 (.ofNat 0)))), (.s (.d (.int .u8 (.ofNat 0)))), (.s (.d (.int .u8 (.ofNat 0)))), (.s (.d (.int .u8 (.ofNat 0)))), (.s (.d (.int .u8 (.ofNat 0)))), (.s (.d (.int .u8 (.ofNat 0)))), (.s (.d (.int .u8 (.ofNat 0)))), (.s (.d (.int .u8 (.ofNat 0)))), (.s (.d (.int .u8 (.ofNat 0)))), (.s (.d (.int .u8 (.ofNat 0)))), (.s (.d (.int .u8 (.ofNat 0)))), (.s (.d (.int .u8 (.ofNat 0)))), (.s (.d (.int .u8 (.ofNat 0)))), (.s (.d (.int .u8 (.ofNat 0)))), (.s (.d (.int .u8 (.ofNat 0)))), (.s (.d (.int .u8 (.ofNat 0)))), (.s (.d (.int .u8 (.ofNat 0)))), (.s (.d (.int .u8 (.ofNat 0)))), (.s (.d (.int .u8 (.ofNat 0)))), (.s (.d (.int .u8 (.ofNat 0)))), (.s (.d (.int .u8 (.ofNat 0)))), (.s (.d (.int .u8 (.ofNat 0)))), (.s (.d (.int .u8 (.ofNat 0)))), (.s (.d (.int .u8 (.ofNat 0)))), (.s (.d (.int .u8 (.ofNat 0)))), (.s (.d (.int .u8 (.ofNat 0)))), (.s (.d (.int .u8 (.ofNat 0)))), (.s (.d (.int .u8 (.ofNat 0)))), (.s (.d (.int .u8 (.ofNat 0)))), (.s (.d (.int .u8 (.ofNat 0)))), (.s (.d (.int .u8 (.ofNat 0)))), (.s (.d (.int .u8 (.ofNat 0)))), (.s (.d (.int .u8 (.ofNat 0)))), (.s (.d (.int .u8 (.ofNat 0)))), (.s (.d (.int .u8 (.ofNat 0)))), (.s (.d (.int .u8 (.ofNat 0)))), (.s (.d (.int .u8 (.ofNat 0)))), (.s (.d (.int .u8 (.ofNat 0)))), (.s (.d (.int .u8 (.ofNat 0)))), (.s (.d (.int .u8 (.ofNat 0)))), (.s (.d (.int .u8 (.ofNat 0)))), (.s (.d (.int .u8 (.ofNat 0)))), (.s (.d (.int .u8 (.ofNat 0)))), (.s (.d (.int .u8 (.ofNat 0)))), (.s (.d (.int .u8 (.ofNat 0)))), (.s (.d (.int .u8 (.ofNat 0)))), (.s (.d (.int .u8 (.ofNat 0)))), (.s (.d (.int .u8 (.ofNat 0)))), (.s (.d (.int .u8 (.ofNat 0)))), (.s (.d (.int .u8 (.ofNat 0)))), (.s (.d (.int .u8 (.ofNat 0)))), (.s (.d (.int .u8 (.ofNat 0)))), (.s (.d (.int .u8 (.ofNat 0)))), (.s (.d (.int .u8 (.ofNat 0)))), (.s (.d (.int .u8 (.ofNat 0)))), (.s (.d (.int .u8 (.ofNat 0)))), (.s (.d (.int .u8 (.ofNat 0)))), (.s (.d (.int .u8 (.ofNat 0)))), (.s (.d (.int .u8 (.ofNat 0)))), (.s (.d (.int .u8 (.ofNat 0)))), (.s (.d (.int .u8 (.ofNat 0)))), (.s (.d (.int .u8 (.ofNat 0)))), (.s (.d (.int .u8 (.ofNat 0))))])
def x345 : AObj := (.row 192 1 0 [(.s (.sl 10149 0 0 21 true))])
def m346 : PM AObj := (nn (nd x35 (nd x59 .nil (nn .nil (lf x343))) .nil) (nn (nn (nn .nil (nd x64 (nn (nn (nn (nn (lf x344) .nil) .nil) .nil) .nil) .nil)) (nn .nil (nn .nil (nn .nil (nn (nn (lf x345) .nil) .nil))))) .nil))
def m347 : PM AObj := (nn (nn (nn (nn .nil (nn (nn (nn (nn (lf x24) .nil) .nil) .nil) .nil)) .nil) (nn .nil (nn (nn (nn (nn (nn (lf x298) .nil) .nil) .nil) .nil) .nil))) (nn (nn (nn (nn (nn .nil (nn (lf x276) .nil)) .nil) (nn (nn (nn (nn (lf x308) .nil) .nil) .nil) .nil)) .nil) .nil))
def m348 : PM AObj := (nn (nn (nn .nil (nn .nil (nn (nn (nn (nn (lf x270) .nil) .nil) .nil) .nil))) (nd x24 .nil (lf x108))) (nn (nn .nil (nd x66 .nil (nn (nn (nn (nn (lf x261) .nil) .nil) .nil) .nil))) (nn (lf x24) .nil)))
def m349 : PM AObj := (nd x56 (nd x56 .nil (nn .nil (nd x333 (nn (nn (nn (nn (lf x24) .nil) .nil) .nil) .nil) .nil))) (nd x26 .nil (nn (nn .nil (nn (nn (nn (nn (lf x268) .nil) .nil) .nil) .nil)) .nil)))
def x350 : AObj := (.row 5 1 0 [(.s (.d (.int .u8 (.ofNat 50))))])
def x351 : AObj := (.row 5 1 0 [(.s (.d (.int .u8 (.ofNat 21)))), (.s (.d (.int .u8 (.ofNat 1)))), (.s (.d (.int .u8 (.ofNat 5)))), (.s (.d (.int .u8 (.ofNat 1)))), (.s (.d (.int .u8 (.ofNat 3)))), (.s (.d (.int .u8 (.ofNat 16)))), (.s (.d (.int .u8 (.ofNat 1)))), (.s (.d (.int .u8 (.ofNat 116)))), (.s (.d (.int .u8 (.ofNat 1)))), (.s (.d (.int .u8 (.ofNat 2)))), (.s (.d (.int .u8 (.ofNat 2)))), (.s (.d (.int .u8 (.ofNat 105)))), (.s (.d (.int .u8 (.ofNat 100)))), (.s (.d (.int .u8 (.ofNat 2)))), (.s (.d (.int .u8 (.ofNat 1)))), (.s (.d (.int .u8 (.ofNat 4)))), (.s (.d (.int .u8 (.ofNat 110)))), (.s (.d (.int .u8 (.ofNat 97)))), (.s (.d (.int .u8 (.ofNat 109)))), (.s (.d (.int .u8 (.ofNat 101)))), (.s (.d (.int .u8 (.ofNat 5)))), (.s (.d (.int .u8 (.ofNat 0))))])
def m352 : PM AObj := (nn (nn (nn (nn .nil (nn (nn (nn (nn (lf x350) .nil) .nil) .nil) .nil)) .nil) .nil) (nn (nn (nn (nn (nn .nil (nn (lf x351) .nil)) .nil) .nil) .nil) (nn (nn .nil (nn (nn (nn (nn (lf x308) .nil) .nil) .nil) .nil)) .nil)))
def x353 : AObj := (.map (.int .i64) [] 6)
def x354 : AObj := (.row 96 4 0 [(xi 1), (xi 5), (xi 0), (.s (.mp 907))])
def m355 : PM AObj := (nd x353 (nn .nil (lf x354)) (nn (nn .nil (nn (nn (nn (nn (lf x273) .nil) .nil) .nil) .nil)) (nn (nn (nn (nn (nn (lf x298) .nil) .nil) .nil) .nil) .nil)))
def m356 : PM AObj := (nn (nn m346 (nn (nn (nn .nil (nn (lf x24) .nil)) (nn (nn (lf x49) .nil) .nil)) m347)) (nn (nn m348 m349) (nn m352 (nn (nn .nil (nn (lf x24) .nil)) m355))))
def s357 : St := ⟨(nd x258 (nd x259 (nn (nn m264 (nn m267 (nn m271 m275))) m287) (nn m300 m311)) (nd x53 m331 (nn m342 m356))), 17262, 0⟩
def w358 : Dr := ⟨f251, s357, [], [⟨3, 0, p242, .load true 3 (.t 5), (.v u217)⟩, ⟨1, 1, p244, .load false 1 (.t 33), (vi 1)⟩]⟩
def q359 : List DOp := [⟨4, ⟨some 37, .e (.callf 122 [(.t 35), (.t 36)]), none, 12⟩⟩]
def k360 : ACode := .region [M 3 (.box 24 3 (.t 1)),
Q 4 (.mov (ci 0))]
def f362 : Fr := ⟨(nd (vp 845 0 0) (lf (.v u217)) .nil), [], none⟩
def f363 : Fr := ⟨(nd (vp 845 0 0) (nd (.v u217) (lf (vp 884 0 0)) .nil) (nn (lf (vi 0)) .nil)), [], none⟩
def m364 : PM AObj := (nn (nn .nil (nn (nn (nn .nil (lf x33)) .nil) .nil)) (nn (nn .nil (nd x27 (nn (lf x34) .nil) .nil)) (nn .nil (nd x24 (nn .nil (lf x220)) .nil))))
def m365 : PM AObj := (nn m364 (nn (nd x29 (nn .nil (nn (nn (lf x49) (lf x58)) .nil)) (nn .nil (nd x24 (nn .nil (lf x58)) .nil))) (nn .nil (nd x38 (lf x59) .nil))))
def s366 : St := ⟨(nd x16 (nd x17 (nn (nn m84 m32) m229) (nn (nn m172 m47) m198)) (nd x53 (nn (nn m109 m57) m365) (nn m232 (nn m65 m68)))), 885, 0⟩
theorem t361 : PC (evO badP allP Ot A 1000000 195) 1000000 k360 f362 s235 .normal f363 s366 := fun K => by kernel_rfl
def k367 : ACode := .seq (
.region [V 6 0,
Q 7 (.nilck (.t 6)),
Q 8 (.faddr 2 (.t 7)),
Q 9 (.load false 1 (.t 8))]) (
.cond (.t 9) (
.seq (
.region [Q 4 (.mov (ci 17))]) (
.ret)) (
.skip))
def m369 : PM AVal := (nd (vp 845 0 0) (nd (.v u217) (nd (vp 884 0 0) (lf (vp 845 0 0)) .nil) (nn (lf (vb false)) .nil)) (nn (nd (vi 0) (lf (vp 845 0 2)) .nil) (lf (vp 845 0 0))))
def f370 : Fr := ⟨m369, [], none⟩
theorem t368 : PC (evO badP allP Ot A 1000000 195) 1000000 k367 f363 s366 .normal f370 s366 := fun K => by kernel_rfl
def q371 : List DOp := [W 0 10 0 0,
D 1 11 (.nilck (.t 10)) 1,
D 2 12 (.faddr 0 (.t 11)) 3,
D 3 13 (.load false 1 (.t 12)) 7,
D 4 14 (.load true 3 (.t 3)) 0,
⟨5, ⟨some 15, .e (.callf 171 [(.t 13), (.t 14)]), none, 31⟩⟩,
W 6 5 15 63]
def s372 : St := ⟨(nd x16 (nd x17 (nn (nn m84 m32) m229) (nn (nn m172 m47) m198)) (nd x53 (nn (nn m109 m57) m365) (nn m232 (nn m65 m68)))), 892, 0⟩
def w373 : Dr := ⟨f370, s372, [], []⟩
def m374 : PM AVal := (nd (.v u217) (nd (vp 884 0 0) (lf (vp 845 0 0)) (lf (vp 845 0 0))) (nn (lf (vb false)) (lf (vp 809 0 0))))
def m375 : PM AVal := (nn (nd (vi 0) (lf (vp 845 0 2)) (lf (vp 845 0 0))) (nd (vp 845 0 0) (lf (vp 845 0 0)) (lf (.v u217))))
def f376 : Fr := ⟨(nd (vp 845 0 0) m374 m375), [], none⟩
def m377 : PM AVal := (nd (vp 845 0 0) m374 (nn (nd (vi 0) (lf (vp 845 0 2)) (lf (vp 845 0 0))) (nd (vp 845 0 0) (lf (vp 845 0 0)) .nil)))
def p378 : PM AVal := m377
def m379 : PM AVal := (nd (vp 845 0 0) (nd (.v u217) (nd (vp 884 0 0) (lf (vp 845 0 0)) (lf (vp 845 0 0))) (nn (lf (vb false)) .nil)) (nn (nd (vi 0) (lf (vp 845 0 2)) (lf (vp 845 0 0))) (nd (vp 845 0 0) (lf (vp 845 0 0)) .nil)))
def p380 : PM AVal := m379
def w381 : Dr := ⟨f376, s372, [], [⟨4, 0, p378, .load true 3 (.t 3), (.v u217)⟩, ⟨3, 7, p380, .load false 1 (.t 12), (vp 809 0 0)⟩]⟩
def q382 : List DOp := [W 0 10 0 0,
D 1 11 (.nilck (.t 10)) 1,
D 2 12 (.faddr 0 (.t 11)) 3,
D 3 13 (.load false 1 (.t 12)) 7,
D 4 14 (.load true 3 (.t 3)) 0]
theorem d383 : PD (evO badP allP Ot A 1000000 195) 885 q371 q382 w373 w381 := fun r K => by kernel_rfl
def m384 : PM AVal := (nd (.v u217) (nd (vp 884 0 0) (nd (vp 845 0 0) (lf (vi 0)) .nil) (lf (vp 845 0 0))) (nn (lf (vb false)) (lf (vp 809 0 0))))
def f385 : Fr := ⟨(nd (vp 845 0 0) m384 m375), [], none⟩
def m386 : PM AObj := (nn (nn (nn .nil (nn .nil (nn (nn (nn (nn (lf x270) .nil) .nil) .nil) .nil))) (nn .nil (lf x108))) (nn (nn .nil (nd x197 .nil (nn (nn (nn (nn (lf x261) .nil) .nil) .nil) .nil))) .nil))
def m387 : PM AObj := (nn (nn m302 (nn (nn .nil (nn (nn (lf x49) .nil) .nil)) (nn .nil (nn (nn (nn (nn (nn .nil (nn (lf x276) .nil)) .nil) .nil) .nil) .nil)))) (nn (nd x33 m386 m306) m310))
def s388 : St := ⟨(nd x258 (nd x259 (nn (nn m264 (nn m267 (nn m271 m275))) m287) (nn m300 m387)) (nd x53 m331 (nn m342 m356))), 17262, 0⟩
def w389 : Dr := ⟨f385, s388, [], [⟨4, 0, p378, .load true 3 (.t 3), (.v u217)⟩, ⟨3, 7, p380, .load false 1 (.t 12), (vp 809 0 0)⟩]⟩
def q390 : List DOp := [⟨5, ⟨some 15, .e (.callf 171 [(.t 13), (.t 14)]), none, 31⟩⟩]
def k391 : ACode := .region [M 2 (.box 54 1 (.t 0)),
M 3 (.box 24 3 (.t 1)),
Q 4 (.mov (ci 0))]
def f393 : Fr := ⟨(nd (vp 809 0 0) (lf (.v u217)) .nil), [], none⟩
def f394 : Fr := ⟨(nd (vp 809 0 0) (nd (.v u217) (lf (vp 893 0 0)) .nil) (nd (vp 892 0 0) (lf (vi 0)) .nil)), [], none⟩
def m395 : PM AObj := (nn (nd x33 (nn .nil (nn (nn .nil (lf x197)) .nil)) (nn .nil (lf x26))) (nn .nil (nd x29 (nn .nil (lf x24)) (nn (nn .nil (lf x220)) .nil))))
def m396 : PM AObj := (nd x17 (nn (nn m84 m32) m229) (nn (nn m172 m47) (nn (nn (nn .nil (nn (nn (nn .nil (lf x48)) .nil) .nil)) (nn (nn .nil (nn (nn (lf x49) .nil) .nil)) .nil)) m395)))
def m397 : PM AObj := (nn (nd x29 (nn .nil (nn (nn (lf x49) (lf x58)) .nil)) (nn .nil (nd x24 (nn .nil (lf x58)) .nil))) (nn .nil (nd x38 (lf x59) (nn (nn .nil (lf x329)) .nil))))
def s398 : St := ⟨(nd x16 m396 (nd x53 (nn (nn m109 m57) (nn m364 m397)) (nn m232 (nn m65 m68)))), 894, 0⟩
theorem t392 : PC (evO badP allP Ot A 1000000 194) 1000000 k391 f393 s372 .normal f394 s398 := fun K => by kernel_rfl
def k399 : ACode := .seq (
.region [Q 9 (.load false 1 (.t 2)),
E 10 (.callf 132 [(.t 9)]),
V 5 10]) (
.seq (
.region [V 11 5,
Q 12 (.bin .neq .scalar (.t 11) (ci 0))]) (
.cond (.t 12) (
.seq (
.region [V 13 5,
V 4 13]) (
.ret)) (
.skip)))
def m401 : PM AVal := (nd (vp 809 0 0) (nd (.v u217) (nd (vp 893 0 0) .nil (lf (vi 0))) (nd (vi 0) (lf (vp 809 0 0)) .nil)) (nd (vp 892 0 0) (nd (vi 0) .nil (lf (vb false))) (nn (lf (vi 0)) .nil)))
def f402 : Fr := ⟨m401, [], none⟩
theorem t400 : PC (evO badP allP Ot A 1000000 194) 1000000 k399 f394 s398 .normal f402 s398 := fun K => by kernel_rfl
def k403 : ACode := .region [Q 14 (.load false 1 (.t 2)),
Q 15 (.nilck (.t 14)),
Q 16 (.faddr 2 (.t 15)),
Q 17 (.load false 1 (.t 16)),
E 18 (.callf 19 [(.t 17)]),
V 6 18]
def m405 : PM AVal := (nd (.v u217) (nd (vp 893 0 0) (nn (lf (vp 809 0 0)) .nil) (lf (vi 0))) (nd (vi 0) (nd (vp 809 0 0) (lf (vp 808 0 0)) .nil) .nil))
def m406 : PM AVal := (nd (vp 892 0 0) (nd (vi 0) (nn (lf (vp 809 0 2)) .nil) (lf (vb false))) (nd (vp 894 0 0) (nd (vi 0) (lf (vp 894 0 0)) .nil) (lf (vp 809 0 0))))
def f407 : Fr := ⟨(nd (vp 809 0 0) m405 m406), [], none⟩
def m408 : PM AObj := (nn (nn (nn (nn (nd x18 (lf x23) .nil) (nn .nil (lf x30))) .nil) .nil) (nn (nn (nn (nn .nil (lf x24)) (lf x25)) (nn (nn .nil (lf x83)) .nil)) (nn .nil (nd x26 .nil (nn (lf x27) .nil)))))
def m409 : PM AObj := (nd x17 (nn (nn m408 m32) m229) (nn (nn m172 m47) (nn (nn (nn .nil (nn (nn (nn .nil (lf x48)) .nil) .nil)) (nn (nn .nil (nn (nn (lf x49) .nil) .nil)) .nil)) m395)))
def m410 : PM AObj := (nn (nn (nn (nn .nil (nn .nil (lf x58))) .nil) (nd x54 (lf x54) (nn (nn .nil (lf x108)) .nil))) (nn (nn .nil (nn (nn .nil (lf x87)) .nil)) (nn (nn (lf x24) .nil) .nil)))
def x411 : AObj := (.row 96 4 0 [(xi 0), (.s (.d (.int .i64 (.negSucc 0)))), (xi 0), (.s (.mp 895))])
def m412 : PM AObj := (nn (nn (nn (nn .nil (lf x24)) (nn (nn .nil (lf x66)) (nn (lf x24) .nil))) (nd x56 (lf x56) (lf x26))) (nn .nil (nn (nn .nil (nn (lf x24) .nil)) (nd x67 (nn .nil (lf x411)) .nil))))
def s413 : St := ⟨(nd x16 m409 (nd x53 (nn (nn m410 m57) (nn m364 m397)) (nn m232 (nn m65 m412)))), 897, 0⟩
theorem t404 : PC (evO badP allP Ot A 1000000 194) 1000000 k403 f402 s398 .normal f407 s413 := fun K => by kernel_rfl
def k414 : ACode := .seq (
.region [V 19 6,
Q 20 (.load true 3 (.t 3)),
E 21 (.callf 10 [(.t 19), (.t 20)]),
V 7 21]) (
.seq (
.region [V 22 7,
Q 23 (.bin .neq .scalar (.t 22) (ci 0))]) (
.cond (.t 23) (
.seq (
.region [V 24 7,
V 4 24]) (
.ret)) (
.skip)))
def m416 : PM AVal := (nd (vp 893 0 0) (nd (vi 0) (lf (vp 809 0 0)) (lf (vb false))) (nd (vi 0) (lf (vp 894 0 0)) .nil))
def m417 : PM AVal := (nd (vp 892 0 0) (nd (vi 0) (nn (lf (vp 809 0 2)) .nil) (nd (vb false) (lf (.v u217)) .nil)) (nd (vp 894 0 0) (nd (vi 0) (lf (vp 894 0 0)) .nil) (nd (vp 809 0 0) (lf (vi 0)) .nil)))
def m418 : PM AVal := (nd (vp 809 0 0) (nd (.v u217) m416 (nd (vi 0) (nd (vp 809 0 0) (lf (vp 808 0 0)) .nil) (nn (lf (vi 0)) .nil))) m417)
def f419 : Fr := ⟨m418, [], none⟩
def m420 : PM AObj := (nn (nn (nn (nn .nil (lf x24)) (nd x25 .nil (lf x260))) (nn (nn .nil (lf x83)) .nil)) (nn (nn .nil (nn .nil (lf x30))) (nd x26 .nil (nn (lf x27) .nil))))
def m421 : PM AObj := (nn (nn .nil (nd x33 (lf x33) (nn (nn .nil (lf x220)) .nil))) (nn (nn .nil (nn (nn (lf x34) .nil) .nil)) (nn (nn .nil (nn .nil (lf x278))) .nil)))
def m422 : PM AObj := (nn (nd x35 (nn (nn .nil (nn .nil (lf x281))) (nn (nn .nil (lf x30)) .nil)) (nn .nil (nn (nn .nil (lf x30)) .nil))) (nn (nn (nn .nil (nn .nil (lf x284))) (nn (nn (lf x24) .nil) .nil)) .nil))
def m423 : PM AObj := (nd x37 (nn (nn (nn .nil (nn .nil (lf x220))) .nil) (nd x38 (lf x39) (nn (nn .nil (lf x171)) .nil))) (nn (nn (nn .nil (nn (lf x40) .nil)) (nn (nn (lf x24) (lf x85)) (lf x34))) (nn (nn .nil (nn .nil (lf x292))) .nil)))
def m424 : PM AObj := (nn (nd x33 (nn (nn .nil (nn .nil (lf x108))) (nn (nn .nil (lf x197)) .nil)) (nn .nil (lf x26))) (nn .nil (nd x29 (nn .nil (lf x24)) (nn (nn .nil (lf x220)) .nil))))
def m425 : PM AObj := (nd x17 (nn (nn (nn (nn (nn (nn (nd x18 (lf x23) .nil) (nn .nil (lf x30))) .nil) .nil) m420) m32) (nn m421 m422)) (nn (nn m423 m47) (nn (nn (nn .nil (nn (nn (nn .nil (lf x48)) .nil) .nil)) (nn (nn .nil (nn (nn (lf x49) .nil) .nil)) .nil)) m424)))
def m426 : PM AObj := (nn (nd x29 (nn (nn .nil (nn .nil (lf x325))) (nn (nn (lf x49) (lf x58)) .nil)) (nn .nil (nd x24 (nn .nil (lf x58)) .nil))) (nn .nil (nd x38 (lf x59) (nn (nn .nil (lf x329)) .nil))))
def m427 : PM AObj := (nn (nd x24 (nn (nn (nn .nil (lf x41)) .nil) .nil) (nd x29 (nd x29 .nil (nn .nil (lf x333))) (nn (nn .nil (lf x171)) .nil))) (nn (nn .nil (nn (nn (lf x49) .nil) .nil)) (nn (nn .nil (nn (lf x43) .nil)) .nil)))
def m428 : PM AObj := (nd x54 (nn (nn (nn .nil (lf x41)) (nn .nil (lf x337))) (nn (nn .nil (lf x62)) (lf x63))) (nn .nil (nn (nd x24 .nil (lf x231)) .nil)))
def m429 : PM AObj := (nn (nn (nd x35 (nd x59 .nil (nn .nil (lf x343))) .nil) (nn (nn (nn .nil (lf x64)) .nil) .nil)) (nn (nn (nn .nil (nn (lf x24) .nil)) (nn (nn (lf x49) .nil) .nil)) .nil))
def m430 : PM AObj := (nn (nn (nn .nil (nd x24 .nil (lf x108))) (nn (nn .nil (lf x66)) (nn (lf x24) .nil))) (nd x56 (nd x56 .nil (nn .nil (lf x333))) (lf x26)))
def m431 : PM AObj := (nd x53 (nn (nn m410 (nn m316 (nd x56 (nd x24 (nd x24 (nn (lf x34) .nil) .nil) .nil) (nn (nn .nil (nn (lf x40) .nil)) .nil)))) (nn m364 m426)) (nn (nn m427 (nn m428 .nil)) (nn m429 (nn m430 (nn .nil (nn (nn .nil (nn (lf x24) .nil)) (nd x67 (nn .nil (lf x354)) .nil)))))))
def s432 : St := ⟨(nd x16 m425 m431), 971, 0⟩
theorem t415 : PC (evO badP allP Ot A 1000000 194) 1000000 k414 f407 s413 .normal f419 s432 := fun K => by kernel_rfl
def k433 : ACode := .region [Q 25 (.load true 3 (.t 3)),
E 26 (.callf 170 [(.t 25)]),
M 8 (.alloc 9 1 [dc (.str [])]),
S 1 8 26]
def m435 : PM AVal := (nd (.v u217) m416 (nd (vi 0) (nd (vp 809 0 0) (lf (vp 808 0 0)) (lf (.v u217))) (nn (lf (vi 0)) .nil)))
def m436 : PM AVal := (nd (vp 894 0 0) (nd (vi 0) (lf (vp 894 0 0)) (lf (.v (.one (.s (.d h157)))))) (nd (vp 809 0 0) (lf (vi 0)) .nil))
def m437 : PM AVal := (nd (vp 892 0 0) (nd (vi 0) (nd (vp 971 0 0) (lf (vp 809 0 2)) .nil) (nd (vb false) (lf (.v u217)) .nil)) m436)
def f438 : Fr := ⟨(nd (vp 809 0 0) m435 m437), [], none⟩
def m439 : PM AObj := (nn (nd x35 (nn (nn .nil (nn .nil (lf x281))) (nn (nn .nil (lf x30)) (nn .nil (lf x282)))) (nn .nil (nn (nn .nil (lf x30)) .nil))) (nn (nn (nn .nil (nn .nil (lf x284))) (nn (nn (lf x24) .nil) .nil)) .nil))
def m440 : PM AObj := (nd x17 (nn (nn (nn (nn (nn (nn (nd x18 (lf x23) .nil) (nn .nil (lf x30))) .nil) .nil) m420) m32) (nn m421 m439)) (nn (nn m423 m47) (nn (nn (nn .nil (nn (nn (nn .nil (lf x48)) .nil) .nil)) (nn (nn .nil (nn (nn (lf x49) .nil) .nil)) .nil)) m424)))
def s441 : St := ⟨(nd x16 m440 m431), 972, 0⟩
theorem t434 : PC (evO badP allP Ot A 1000000 194) 1000000 k433 f419 s432 .normal f438 s441 := fun K => by kernel_rfl
def k442 : ACode := .seq (
.region [Q 27 (.load false 1 (.t 8)),
Q 28 (.bin .eql .scalar (.t 27) (cs []))]) (
.cond (.t 28) (
.seq (
.region [Q 4 (.mov (ci 19))]) (
.ret)) (
.skip))
def m444 : PM AVal := (nd (vp 893 0 0) (nd (vi 0) (lf (vp 809 0 0)) (lf (vb false))) (nd (vi 0) (lf (vp 894 0 0)) (lf (.v (.one (.s (.d h157)))))))
def m445 : PM AVal := (nd (.v u217) m444 (nd (vi 0) (nd (vp 809 0 0) (lf (vp 808 0 0)) (lf (.v u217))) (nn (lf (vi 0)) .nil)))
def m446 : PM AVal := (nd (vi 0) (nd (vp 971 0 0) (lf (vp 809 0 2)) .nil) (nd (vb false) (lf (.v u217)) (lf (vb false))))
def f447 : Fr := ⟨(nd (vp 809 0 0) m445 (nd (vp 892 0 0) m446 m436)), [], none⟩
theorem t443 : PC (evO badP allP Ot A 1000000 194) 1000000 k442 f438 s441 .normal f447 s441 := fun K => by kernel_rfl
def r448 : List AOper := [Q 29 (.load false 1 (.t 2)), V 30 6, Q 31 (.mkfn (.func 239) 239 [] [(.t 2), (.t 8)])]
def e449 : Cell := (.fn (.func 239) 239 [] [⟨false, [(.ptr 892 0 0)]⟩, ⟨false, [(.ptr 971 0 0)]⟩])
def m450 : PM AVal := (nd (vp 893 0 0) (nd (vi 0) (nd (vp 809 0 0) (lf (vc e449)) .nil) (lf (vb false))) (nd (vi 0) (lf (vp 894 0 0)) (lf (.v (.one (.s (.d h157)))))))
def m451 : PM AVal := (nd (vi 0) (nd (vp 809 0 0) (lf (vp 808 0 0)) (lf (.v u217))) (nn (lf (vi 0)) (lf (vp 809 0 0))))
def m452 : PM AVal := (nd (vp 894 0 0) (nd (vi 0) (lf (vp 894 0 0)) (lf (.v (.one (.s (.d h157)))))) (nd (vp 809 0 0) (lf (vi 0)) (lf (vp 894 0 0))))
def f453 : Fr := ⟨(nd (vp 809 0 0) (nd (.v u217) m450 m451) (nd (vp 892 0 0) m446 m452)), [], none⟩
theorem o454 : PX (evO badP allP Ot A 1000000 194) r448 f447 s441 f453 s441 := fun r K => by kernel_rfl
def r455 : List AOper := [E 32 (.callf 188 [(.t 29), (.t 30), (.t 31)])]
def k456 : ACode := .region [Q 6 (.mov (ci 0))]
def f458 : Fr := ⟨(nd (vp 809 0 0) (lf (vp 894 0 0)) (lf (vc e449))), [], none⟩
def f459 : Fr := ⟨(nd (vp 809 0 0) (lf (vp 894 0 0)) (nd (vc e449) .nil (lf (vi 0)))), [], none⟩
theorem t457 : PC (evO badP allP Ot A 1000000 193) 1000000 k456 f458 s441 .normal f459 s441 := fun K => by kernel_rfl
def r460 : List AOper := [V 11 2]
def f461 : Fr := ⟨(nd (vp 809 0 0) (nd (vp 894 0 0) (nn .nil (lf (vc e449))) .nil) (nd (vc e449) .nil (lf (vi 0)))), [], none⟩
theorem o462 : PX (evO badP allP Ot A 1000000 193) r460 f459 s441 f461 s441 := fun r K => by kernel_rfl
def r463 : List AOper := [E 12 (.callv (.t 11) [])]
end Go.Proofs.YtcdebohjjkffkaaGreat.tr
