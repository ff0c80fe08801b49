/- Closed runs with known answers, put together out of pieces. -/
import Derived.Test.YtcdebohjjkffkaaGreatRfDj
namespace Go.Rf
set_option linter.unusedVariables false
set_option linter.unusedSimpArgs false
open Go

section
variable {O : Orc} {A : FuncId → Option AFunc} {LF n : Nat} {f f1 : Fr} {s s0 s1 s2 : St} {e : AExit}

theorem PX.callO {d : Option Nat} {g : FuncId} {args : List AOpd} {gd : Option (Nat × Bool)} {anc : Nat} {vs : List Vl} {v : AVal} (hg : wanted f.slots gd = some true) (hv : vls? (args.map (rdS f.slots)) = some vs)
    (hc : PKO O A LF n g vs s v s1) (hf : f.setD d v = f1) : PX (evO badP allP O A LF n) [⟨d, .e (.callf g args), gd, anc⟩] f s f1 s1 := fun r K => by
  subst hf
  simp only [List.singleton_append, evOps, hg, evE, hv, evCallf]
  exact hc _ _

theorem PD.callO {base i : Nat} {l0 : List DOp} {D D' : Dr} {d : Option Nat} {g : FuncId} {args : List AOpd} {gd : Option (Nat × Bool)} {anc : Nat} {vs : List Vl} {v : AVal} (hg : wanted D.fr.slots gd = some true) (hv : vls? (args.map (rdS D.fr.slots)) = some vs)
    (hs : withObjs D.S anc.testBit D.made = s) (hc : PKO O A LF n g vs s v s1) (hk : chkOk s1 (madeLeft anc D.made) anc D.chk = true) (hd : ({ D with S := s1, made := madeLeft anc D.made } : Dr).put d v = D') :
    PD (evO badP allP O A LF n) base l0 [⟨i, ⟨d, .e (.callf g args), gd, anc⟩⟩] D D' := fun r K => by
  subst hs hd
  simp only [List.singleton_append, evDraw, hg, evE, hv, evCallf]
  refine (hc _ _).trans ?_
  simp only [drawn, hk]

theorem PKO.mk {g : Nat} {args : List Vl} {af : AFunc} {v : AVal} {K : ACode} (ho : O g args = none) (ha : A g = some af) (hk : af.code = K) (hf : enterFr args none = f) (hs : inSt af.pure s = s0) (hc : PC (evO badP allP O A LF n) LF K f s0 e f1 s1)
    (hb : ∀ (K : AVal → St → Prop) (PN : APan → St → Prop), evOut badP allP A (evO badP allP O A LF n) LF af s K PN e f1 s1 = K v s2) : PKO O A LF (n + 1) g args s v s2 := fun Kx PN => by
  subst hk hf hs
  have h1 : evO badP allP O A LF (n + 1) (.f g) args s Kx PN = evStep badP allP A LF (evO badP allP O A LF n) (.f g) args s Kx PN := by
    simp only [evO, orc, ho]
    split
    · rename_i h; cases h
    · rfl
  rw [h1]
  simp only [evStep, ha]
  exact (hc _).trans (hb Kx PN)

theorem PC.drawN {call : CallT Prop} {l l' : List DOp} {D : Dr} {base : Nat} (hb : s.next = base) (hl : l' = l) (hd : D = ⟨f, { s with next := s.next + l.length }, [], []⟩) (h : PR call base l l' D f1 s1) : PC call LF (.draw l) f s .normal f1 s1 := by
  subst hb hl hd
  exact h

/-- Some rounds. -/
def PI (call : CallT Prop) (LF : Nat) (c : ACode) (j : Nat) (f : Fr) (s : St) (f' : Fr) (s' : St) : Prop := ∀ (m : Nat) (K : AExit → Fr → St → Prop), iter badP (evCode badP allP call LF c) (m + j) f s K = iter badP (evCode badP allP call LF c) m f' s' K

theorem PL.some {call : CallT Prop} {c : ACode} {j m m' : Nat} {f2 : Fr} (h : PI call LF c j f s f1 s1) (hm : m + j = m') (h' : PL call LF c m f1 s1 e f2 s2) : PL call LF c m' f s e f2 s2 := fun K => by
  subst hm
  exact (h m K).trans (h' K)

end
end Go.Rf
