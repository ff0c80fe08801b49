/- Closed runs, put together out of pieces. -/
import Derived.Test.YtcdebohjjkffkaaGreatRfDg
import Derived.KernelRfl
namespace Go.Rf
set_option linter.unusedVariables false
set_option linter.unusedSimpArgs false
open Go

section
variable {A : FuncId → Option AFunc} {LF n : Nat} {call : CallT Prop}

def PC (call : CallT Prop) (LF : Nat) (c : ACode) (f : Fr) (s : St) (e : AExit) (f' : Fr) (s' : St) : Prop := ∀ K : AExit → Fr → St → Prop, evCode badP allP call LF c f s K = K e f' s'
def PO (call : CallT Prop) (l : List AOper) (f : Fr) (s : St) (e : AExit) (f' : Fr) (s' : St) : Prop := ∀ K : AExit → Fr → St → Prop, evOps badP allP call l f s K = K e f' s'
def PX (call : CallT Prop) (p : List AOper) (f : Fr) (s : St) (f' : Fr) (s' : St) : Prop := ∀ (r : List AOper) (K : AExit → Fr → St → Prop), evOps badP allP call (p ++ r) f s K = evOps badP allP call r f' s' K
def PD (call : CallT Prop) (base : Nat) (l0 p : List DOp) (D D' : Dr) : Prop := ∀ (r : List DOp) (K : AExit → Fr → St → Prop), evDraw badP allP call base l0 (p ++ r) D K = evDraw badP allP call base l0 r D' K
def PR (call : CallT Prop) (base : Nat) (l0 l : List DOp) (D : Dr) (f' : Fr) (s' : St) : Prop := ∀ K : AExit → Fr → St → Prop, evDraw badP allP call base l0 l D K = K .normal f' s'
def PL (call : CallT Prop) (LF : Nat) (c : ACode) (m : Nat) (f : Fr) (s : St) (e : AExit) (f' : Fr) (s' : St) : Prop := ∀ K : AExit → Fr → St → Prop, iter badP (evCode badP allP call LF c) m f s K = K e f' s'
def PK (A : FuncId → Option AFunc) (LF n g : Nat) (args : List Vl) (s : St) (v : AVal) (s' : St) : Prop := ∀ (K : AVal → St → Prop) (PN : APan → St → Prop), evCall badP allP A LF n (.f g) args s K PN = K v s'

variable {a b c : ACode} {f f1 f2 : Fr} {s s0 s1 s2 : St} {e e' : AExit}

theorem PC.seq (h : PC call LF a f s .normal f1 s1) (h' : PC call LF b f1 s1 e f2 s2) : PC call LF (.seq a b) f s e f2 s2 := fun K => (h _).trans (h' K)
theorem PC.seqx (h : PC call LF a f s e f1 s1) (he : e ≠ .normal) : PC call LF (.seq a b) f s e f1 s1 := fun K => (h _).trans (by cases e <;> first | rfl | exact absurd rfl he)
theorem PC.condT {x : AOpd} (hx : (rdS f.slots x).bool? = some true) (h : PC call LF a f s e f1 s1) : PC call LF (.cond x a b) f s e f1 s1 := fun K => by
  rw [← h K]; simp only [evCode, hx]
theorem PC.condF {x : AOpd} (hx : (rdS f.slots x).bool? = some false) (h : PC call LF b f s e f1 s1) : PC call LF (.cond x a b) f s e f1 s1 := fun K => by
  rw [← h K]; simp only [evCode, hx]
def blockE (id : Nat) : AExit → AExit
  | .exit i => match Nat.beq i id with
    | true => .normal
    | false => .exit i
  | e => e
theorem PC.block {id : Nat} (h : PC call LF a f s e f1 s1) (he : blockE id e = e') : PC call LF (.block id a) f s e' f1 s1 := fun K => by
  refine (h _).trans ?_
  subst he
  cases e with
  | exit i =>
    simp only [blockE]
    cases Nat.beq i id <;> rfl
  | _ => rfl
theorem PC.region {l : List AOper} (h : PO call l f s e f1 s1) : PC call LF (.region l) f s e f1 s1 := h
theorem PC.draw {l : List DOp} (h : PR call s.next l l ⟨f, { s with next := s.next + l.length }, [], []⟩ f1 s1) : PC call LF (.draw l) f s .normal f1 s1 := h
theorem PC.loop (h : PL call LF a LF f s e f1 s1) : PC call LF (.loop a) f s e f1 s1 := h
theorem PL.step {m : Nat} (h : PC call LF a f s .normal f1 s1) (h' : PL call LF a m f1 s1 e f2 s2) : PL call LF a (m + 1) f s e f2 s2 := fun K => (h _).trans (h' K)
theorem PL.out {m : Nat} (h : PC call LF a f s e f1 s1) (he : e ≠ .normal) : PL call LF a (m + 1) f s e f1 s1 := fun K => (h _).trans (by cases e <;> first | rfl | exact absurd rfl he)
theorem PO.nil : PO call [] f s .normal f s := fun _ => rfl
theorem PO.app {p r : List AOper} (h : PX call p f s f1 s1) (h' : PO call r f1 s1 e f2 s2) : PO call (p ++ r) f s e f2 s2 := fun K => (h r K).trans (h' K)
theorem PR.app {base : Nat} {l0 p r : List DOp} {D D' : Dr} (h : PD call base l0 p D D') (h' : PR call base l0 r D' f2 s2) : PR call base l0 (p ++ r) D f2 s2 := fun K => (h r K).trans (h' K)

theorem PX.callf {d : Option Nat} {g : FuncId} {args : List AOpd} {gd : Option (Nat × Bool)} {anc : Nat} {vs : List Vl} {v : AVal} (hg : wanted f.slots gd = some true) (hv : vls? (args.map (rdS f.slots)) = some vs)
    (hc : PK A LF n g vs s v s1) (hf : f.setD d v = f1) : PX (evCall badP allP A LF n) [⟨d, .e (.callf g args), gd, anc⟩] f s f1 s1 := fun r K => by
  subst hf
  simp only [List.singleton_append, evOps, hg, evE, hv, evCallf]
  exact hc _ _

theorem PD.callf {base i : Nat} {l0 : List DOp} {D D' : Dr} {d : Option Nat} {g : FuncId} {args : List AOpd} {gd : Option (Nat × Bool)} {anc : Nat} {vs : List Vl} {v : AVal} (hg : wanted D.fr.slots gd = some true) (hv : vls? (args.map (rdS D.fr.slots)) = some vs)
    (hs : withObjs D.S anc.testBit D.made = s) (hc : PK A LF n g vs s v s1) (hk : chkOk s1 (madeLeft anc D.made) anc D.chk = true) (hd : ({ D with S := s1, made := madeLeft anc D.made } : Dr).put d v = D') :
    PD (evCall badP allP A LF n) base l0 [⟨i, ⟨d, .e (.callf g args), gd, anc⟩⟩] D D' := fun r K => by
  subst hs hd
  simp only [List.singleton_append, evDraw, hg, evE, hv, evCallf]
  refine (hc _ _).trans ?_
  simp only [drawn, hk]

theorem PK.mk {g : Nat} {args : List Vl} {af : AFunc} {v : AVal} {K : ACode} (ha : A g = some af) (hk : af.code = K) (hf : enterFr args none = f) (hs : inSt af.pure s = s0) (hc : PC (evCall badP allP A LF n) LF K f s0 e f1 s1)
    (hb : ∀ (K : AVal → St → Prop) (PN : APan → St → Prop), evOut badP allP A (evCall badP allP A LF n) LF af s K PN e f1 s1 = K v s2) : PK A LF (n + 1) g args s v s2 := fun Kx PN => by
  subst hk hf hs
  simp only [evCall, evStep, ha]
  exact (hc _).trans (hb Kx PN)

end
end Go.Rf
