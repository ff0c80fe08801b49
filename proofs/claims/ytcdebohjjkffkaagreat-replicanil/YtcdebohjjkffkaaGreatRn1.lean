/- A closed run, printed by program: piece by piece. -/
import Derived.Test.YtcdebohjjkffkaaGreatRn0
namespace Go.Proofs.YtcdebohjjkffkaaGreat.tr
open Go Go.Rf
set_option maxRecDepth 1000000
def u464 : Vl := (.agg [(xi 0), (.s (.sl 10358 0 0 1 false))])
def m465 : PM AVal := (nd (vp 809 0 0) (nd (vp 894 0 0) (nn .nil (lf (vc e449))) .nil) (nd (vc e449) (nn .nil (lf (.tup [u464, (.one (xi 0))]))) (lf (vi 0))))
def f466 : Fr := ⟨m465, [], none⟩
def m467 : PM AObj := (nn (nd x29 (nn (nn .nil (lf x24)) .nil) .nil) (nn (nn (nn .nil (lf x30)) (nn .nil (nn .nil (nn .nil (nn (nn (lf x266) .nil) .nil))))) (lf x26)))
def m468 : PM AObj := (nn (nn (nn .nil (nn (lf x31) .nil)) (nn (nn (nn (nn (nn .nil (nn (lf x269) .nil)) .nil) .nil) .nil) .nil)) (nn (nn .nil (nn (lf x24) .nil)) .nil))
def m469 : PM AObj := (nn (nn .nil (nn (nn (lf x34) .nil) .nil)) (nn (nn .nil (nn .nil (lf x278))) (nn (nn (nn (nn (nn .nil (nn (lf x274) .nil)) .nil) .nil) .nil) .nil)))
def m470 : PM AObj := (nn (nn (nn (nn .nil (nn (nn (nn (nn (nn .nil (nn (lf x276) .nil)) .nil) .nil) .nil) .nil)) (nd x33 (lf x33) (nn (nn .nil (lf x220)) .nil))) m469) m439)
def m471 : PM AObj := (nn (nn (nn (nn .nil (lf x41)) .nil) (nn .nil (nd x42 (lf x43) .nil))) (nn (nn (nn (nn (nn (nn .nil (nn (lf x294) .nil)) .nil) .nil) (lf x44)) (lf x45)) .nil))
def m472 : PM AObj := (nn (nd x33 (nn (nn .nil (nn .nil (lf x108))) (nn (nn .nil (lf x197)) .nil)) (nn .nil (lf x26))) (nn (nn .nil (nn (nn (nn (nn (nn .nil (nn (lf x307) .nil)) .nil) .nil) .nil) .nil)) (nd x29 (nn .nil (lf x24)) (nn (nn .nil (lf x220)) .nil))))
def m473 : PM AObj := (nn (nn m423 (nn m471 (nn (nn (nn (nn (lf x34) .nil) .nil) .nil) (nn (nn (nn (lf x46) .nil) (nn (lf x40) .nil)) .nil)))) (nn (nn m302 (nn (nn .nil (nn (nn (lf x49) .nil) .nil)) (nn .nil (nn (nn (nn (nn (nn .nil (nn (lf x276) .nil)) .nil) .nil) .nil) .nil)))) m472))
def m474 : PM AObj := (nn (nn (nn .nil (nn (nn (nn (nn (nn .nil (nn (lf x318) .nil)) .nil) .nil) .nil) .nil)) (nn (nn (nn .nil (lf x33)) .nil) .nil)) (nn (nn .nil (nd x27 (nn (lf x34) .nil) .nil)) (nn .nil (nd x24 (nn (nn (nn (nn .nil (nn (lf x274) .nil)) .nil) .nil) (lf x220)) .nil))))
def m475 : PM AObj := (nd x29 (nn (nn .nil (nn .nil (lf x325))) (nn (nn (lf x49) (lf x58)) (nn .nil (lf x274)))) (nn .nil (nd x24 (nn .nil (lf x58)) .nil)))
def m476 : PM AObj := (nn (nn m410 (nn m316 (nd x56 (nd x24 (nd x24 (nn (lf x34) .nil) .nil) .nil) (nn (nn .nil (nn (lf x40) .nil)) .nil)))) (nn m474 (nn m475 (nn .nil (nd x38 (lf x59) (nn (nn .nil (lf x329)) .nil))))))
def m477 : PM AObj := (nd x24 (nn (nn (nn .nil (lf x41)) .nil) (nn (nn (nn (nn (nn .nil (nn (lf x24) .nil)) .nil) .nil) .nil) .nil)) (nd x29 (nd x29 .nil (nn .nil (lf x333))) (nn (nn .nil (lf x171)) .nil)))
def m478 : PM AObj := (nn (nn .nil (nn (nn (lf x49) .nil) .nil)) (nn (nn .nil (nn (lf x43) .nil)) (nn (nn (nn (nn (nn .nil (nn (lf x24) .nil)) .nil) .nil) .nil) .nil)))
def m479 : PM AObj := (nn (nd x35 (nd x59 .nil (nn .nil (lf x343))) .nil) (nn (nn (nn .nil (lf x64)) (nn .nil (nn .nil (nn .nil (nn (nn (lf x345) .nil) .nil))))) .nil))
def m480 : PM AObj := (nn (nn (nn .nil (nn (lf x24) .nil)) (nn (nn (lf x49) .nil) .nil)) (nn .nil (nn (nn (nn (nn (nn .nil (nn (lf x276) .nil)) .nil) .nil) .nil) .nil)))
def h481 : Dat := (.str [6, 0, 0, 0, 0, 0, 0, 0, 0, 0, 0, 0, 0, 0, 0, 0, 0, 0, 0, 0, 0, 0, 0, 0, 0, 0, 0, 0, 0, 0, 0, 0, 0, 0, 0, 0, 0, 0, 0, 0, 0, 0, 0, 0, 0, 0, 0, 0, 0, 0, 0, 0, 0, 0, 0, 0, 0, 0, 0, 0, 0, 0, 0, 0, 0, 0, 0, 0, 0, 0, 0, 0, 0, 0, 0, 0, 0, 0, 0, 0, 0, 0, 0, 0, 0, 0, 0, 0, 0, 0, 0, 0, 0, 0, 0, 0, 0, 0, 0, 0, 0, 0, 0, 0, 0, 0, 0, 0, 0, 0, 0, 0, 0, 0, 0, 0, 0, 0, 0, 0, 0, 0, 0, 0, 0, 0, 0, 0])
def x482 : AObj := (.map (.int .i64) [⟨[(.int .i64 (.ofNat 0))], 2, (.one (.s (.d h481)))⟩, ⟨[(.int .i64 (.ofNat 2))], 3, (.one (.s (.d h256)))⟩] 4)
def m483 : PM AObj := (nn (nn .nil (nn (nn (nn (nn (nn .nil (nn (lf x351) .nil)) .nil) .nil) .nil) .nil)) (nn (nn .nil (nn (lf x24) .nil)) (nd x482 (nn .nil (lf x354)) .nil)))
def m484 : PM AObj := (nd x16 (nd x17 (nn (nn (nn (nn (nn (nn (nd x18 (lf x23) .nil) (nn .nil (lf x30))) .nil) .nil) m420) (nn m467 m468)) m470) m473) (nd x53 m476 (nn (nn (nn m477 m478) (nn m428 .nil)) (nn (nn m479 m480) (nn m430 m483)))))
def s485 : St := ⟨m484, 10359, 0⟩
theorem o486 : PX (evO badP allP Ot A 1000000 193) r463 f461 s441 f466 s485 := fun r K => by kernel_rfl
def r487 : List AOper := [V 10 12, Q 13 (.extract 0 (.t 10)), Q 14 (.extract 1 (.t 10)), M 7 (.alloc 63 2 zl9), S 2 7 13, V 8 14]
end Go.Proofs.YtcdebohjjkffkaaGreat.tr
