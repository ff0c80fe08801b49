/- Known answers: functions whose answers on data are proved once are not run again. -/
import Derived.Test.YtcdebohjjkffkaaGreatRfDh
namespace Go.Rf
set_option linter.unusedVariables false
set_option linter.unusedSimpArgs false
open Go

/-! ## Values without objects -/

def plain0 : Cell0 → Bool
  | .d _ => true
  | .ro _ => true
  | _ => false

def plainC : Cell → Bool
  | .s c => plain0 c
  | .fn _ _ a b => a.all (fun x => x.cs.all plain0) && b.all fun x => x.cs.all plain0
  | .yld _ => false
  | .ifc _ _ cs => cs.all plain0

def plainV : Vl → Bool
  | .one c => plainC c
  | .agg cs => cs.all plainC

def plainA : AVal → Bool
  | .v x => plainV x
  | .tup l => l.all plainV
  | .bad => false

section
variable {F F' : Fo} {ρ ρ' : Pl} {S S' : St} {w w' : World} {P : Program}

theorem C0.plain (h : ∀ b, Ro F ρ S w b → Ro F' ρ' S' w' b ∧ w'.heap[b]? = w.heap[b]?) {c : Cell0} {v : Value} (hp : plain0 c = true) (hc : C0 F ρ S w c v) : C0 F' ρ' S' w' c v := by
  cases c with
  | d x => exact VD.mono h hc
  | ro cs =>
    obtain ⟨b, off, vs, h1, h2, h3, h4⟩ := hc
    exact ⟨b, off, vs, h1, h2, fun hne => ⟨(h b (h3 hne).1).1, (h3 hne).2.congr (h b (h3 hne).1).2⟩, h4.mono fun _ _ hh => VD.mono h hh⟩
  | _ => cases hp

theorem C0s.plain (h : ∀ b, Ro F ρ S w b → Ro F' ρ' S' w' b ∧ w'.heap[b]? = w.heap[b]?) {cs : List Cell0} {vs : List Value} (hp : cs.all plain0 = true) (hc : All2 (C0 F ρ S w) cs vs) : All2 (C0 F' ρ' S' w') cs vs :=
  hc.mono_mem fun c hm _ hh => hh.plain h (List.all_eq_true.1 hp c hm)

theorem V0.plain (h : ∀ b, Ro F ρ S w b → Ro F' ρ' S' w' b ∧ w'.heap[b]? = w.heap[b]?) {x : Vl0} {v : Value} (hp : x.cs.all plain0 = true) (hc : V0 F ρ S w x v) : V0 F' ρ' S' w' x v := by
  unfold V0 at *
  split
  · rename_i c h1 h2
    simp only [h1, h2] at hc
    rw [h2] at hp
    exact hc.plain h (by simpa using hp)
  · rename_i hne
    split at hc
    · rename_i c h1 h2; exact absurd h2 (hne c h1)
    · obtain ⟨a, h1, h2⟩ := hc
      exact ⟨a, h1, C0s.plain h hp h2⟩

theorem CR.plain (h : ∀ b, Ro F ρ S w b → Ro F' ρ' S' w' b ∧ w'.heap[b]? = w.heap[b]?) {c : Cell} {v : Value} (hp : plainC c = true) (hc : CR F ρ S w P c v) : CR F' ρ' S' w' P c v := by
  cases c with
  | s c => exact C0.plain h hp hc
  | fn f g a b =>
    simp only [plainC, Bool.and_eq_true, List.all_eq_true (p := fun x : Vl0 => x.cs.all plain0)] at hp
    obtain ⟨x, y, h1, h2, h3, h4⟩ := hc
    exact ⟨x, y, h1, h2.mono_mem fun c hm _ hh => hh.plain h (hp.1 c hm), h3.mono_mem fun c hm _ hh => hh.plain h (hp.2 c hm), h4⟩
  | yld id => cases hp
  | ifc t a cs =>
    obtain ⟨u, h1, h2⟩ := hc
    exact ⟨u, h1, h2.plain h hp⟩

theorem VlR.plain (h : ∀ b, Ro F ρ S w b → Ro F' ρ' S' w' b ∧ w'.heap[b]? = w.heap[b]?) {x : Vl} {v : Value} (hp : plainV x = true) (hc : VlR F ρ S w P x v) : VlR F' ρ' S' w' P x v := by
  cases x with
  | one c => exact CR.plain h hp hc
  | agg cs =>
    obtain ⟨a, h1, h2⟩ := hc
    exact ⟨a, h1, h2.mono_mem fun c hm _ hh => CR.plain h (List.all_eq_true.1 hp c hm) hh⟩

theorem AR.plain (h : ∀ b, Ro F ρ S w b → Ro F' ρ' S' w' b ∧ w'.heap[b]? = w.heap[b]?) {x : AVal} {v : Value} (hp : plainA x = true) (hc : AR F ρ S w P x v) : AR F' ρ' S' w' P x v := by
  cases x with
  | v x => exact VlR.plain h hp hc
  | tup l =>
    obtain ⟨a, h1, h2⟩ := hc
    exact ⟨a, h1, h2.mono_mem fun c hm _ hh => VlR.plain h (List.all_eq_true.1 hp c hm) hh⟩
  | bad => cases hp

end

/-! ## Known answers -/

abbrev Orc := FuncId → List Vl → Option AVal

def St.zero : St := ⟨.nil, 0, 0⟩
def Pl.zero : Pl := fun _ => none
def Fo.of (F : Nat → Prop) : Fo := ⟨F, fun _ => False⟩

/-- What a function answers on data, in whatever world: nothing that was there is changed. -/
def OrcSound (P : Program) (O : Orc) : Prop :=
  ∀ g args v, O g args = some v → plainA v = true ∧ ∀ (F : Nat → Prop) (w : World) (vs : Array Value), (∀ b, F b → b < w.heap.size) → All2 (VlR (Fo.of F) Pl.zero St.zero w P) args vs.toList →
    Enters P g ∧ CallsIn Fence.wide 0 P g vs w (fun e w' => ∃ u, e = .returned u ∧ w.heap.size ≤ w'.heap.size ∧ (∀ b, b < w.heap.size → w'.heap[b]? = w.heap[b]?) ∧ Calm w w' ∧ AR (Fo.of F) Pl.zero St.zero w' P v u)

def orc {R : Type} (O : Orc) (call : CallT R) : CallT R
  | .f g, args, S, K, PN => match args.all plainV, O g args with
    | true, some v => K v S
    | _, _ => call (.f g) args S K PN
  | .yld id, args, S, K, PN => call (.yld id) args S K PN

theorem R.zero {F : Nat → Prop} {w : World} {P : Program} (hF : ∀ b, F b → b < w.heap.size) : R (Fo.of F) Pl.zero St.zero w P :=
  ⟨fun _ _ h => (nomatch h), fun _ h => (nomatch h), fun _ _ _ _ h => (nomatch h), fun _ _ h => (nomatch h), hF, fun _ h => h.elim⟩

section
variable {F : Fo} {ρ : Pl} {S : St} {w w' : World} {P : Program}

theorem Ext.keep (hR : R F ρ S w P) (hsz : w.heap.size ≤ w'.heap.size) (hk : ∀ b, b < w.heap.size → w'.heap[b]? = w.heap[b]?) (hc : Calm w w') : Ext ρ S w ρ S w' where
  size := hsz
  next := Nat.le_refl _
  born _ h := h
  out b hb hno := ⟨hno, hk b hb⟩
  ob _ o' _ ho := ⟨o', ho, o'.kin_refl, Nat.le_refl _, fun _ => ⟨rfl, SameRoom.congr (hk _ (hR.block_lt ho))⟩⟩
  flr := rfl
  low _ _ := ⟨rfl, rfl, fun _ ho => hk _ (hR.block_lt ho)⟩
  calm := hc

theorem R.keep (hR : R F ρ S w P) (hsz : w.heap.size ≤ w'.heap.size) (hk : ∀ b, b < w.heap.size → w'.heap[b]? = w.heap[b]?) (hc : Calm w w') : R F ρ S w' P :=
  hR.go (.keep hR hsz hk hc) hR.lt (fun id o h => .inl ⟨(hR.ob _ _ h).1, h, fun _ => hk _ (hR.block_lt h)⟩) hR.inj hR.away fun id h => (hR.res id h).1

end

theorem orc_ok {P : Program} {O : Orc} (hO : OrcSound P O) {call : CallT Prop} (hcall : CallSound P call) : CallSound P (orc O call) := by
  intro F ρ S w tg args vs K PN hR hfn hv h
  cases tg with
  | yld id => exact hcall F ρ S w (.yld id) args vs K PN hR hfn hv h
  | f g =>
    simp only [orc] at h
    split at h
    · rename_i v hp ho
      obtain ⟨h1, h2⟩ := hO g args v ho
      have hro : ∀ b, Ro F ρ S w b → Ro (Fo.of fun b => F b ∨ Own ρ S b) Pl.zero St.zero w b ∧ w.heap[b]? = w.heap[b]? := fun b hb =>
        ⟨⟨hb.1, fun ⟨_, _, h, _⟩ => (nomatch h), fun hf => hf.elim hb.2.2 hb.2.1⟩, rfl⟩
      have hF : ∀ b, (F b ∨ Own ρ S b) → b < w.heap.size := fun b hb => by
        rcases hb with hb | ⟨id, o, g1, _, rfl⟩
        · exact hR.flt b hb
        · exact hR.block_lt g1
      obtain ⟨h3, h4⟩ := h2 (fun b => F b ∨ Own ρ S b) w vs hF (hv.mono_mem fun x hm _ hh => hh.plain hro (List.all_eq_true.1 hp x hm))
      refine ⟨⟨h3, h4.mono fun e w' he => ?_⟩, fun id e => nomatch e⟩
      obtain ⟨u, rfl, k1, k2, kc, k3⟩ := he
      have hro' : ∀ b, Ro (Fo.of fun b => F b ∨ Own ρ S b) Pl.zero St.zero w' b → Ro F ρ S w' b ∧ w'.heap[b]? = w'.heap[b]? := fun b hb =>
        ⟨⟨hb.1, fun ho => hb.2.2 (.inr ho), fun hf => hb.2.2 (.inl hf)⟩, rfl⟩
      exact ⟨ρ, S, v, hR.keep k1 k2 kc, .keep hR k1 k2 kc, k3.plain hro' h1, h⟩
    · exact hcall F ρ S w (.f g) args vs K PN hR hfn hv h

/-- The machine with known answers. -/
def evO {R : Type} (bad : String → R) (all : (n : Nat) → (Nat → R) → R) (O : Orc) (A : FuncId → Option AFunc) (LF : Nat) : Nat → CallT R
  | 0, _, _, _, _, _ => bad "depth"
  | n + 1, tg, args, S, K, PN => orc O (evStep bad all A LF (evO bad all O A LF n)) tg args S K PN

theorem evO_sound {P : Program} (hm : P.follows .mixedOrders = true) {O : Orc} (hO : OrcSound P O) {A : FuncId → Option AFunc} (hA : TabOk P A) (LF : Nat) : ∀ n, CallSound P (evO badP allP O A LF n)
  | 0 => fun _ _ _ _ _ _ _ _ _ _ _ _ h => h.elim
  | n + 1 => fun F ρ S w tg args vs K PN hR hfn hv h =>
    orc_ok hO (evStep_ok hA LF (evO_sound hm hO hA LF n) (drawSound hm (evO_sound hm hO hA LF n))) F ρ S w tg args vs K PN hR hfn hv h

/-- A run on nothing tells an answer. -/
theorem orc_of_run {P : Program} {call : CallT Prop} (hcall : CallSound P call) {O : Orc} (h : ∀ g args v, O g args = some v → plainA v = true ∧ ∀ (K : AVal → St → Prop) (PN : APan → St → Prop), K v St.zero → call (.f g) args St.zero K PN) : OrcSound P O := by
  intro g args v ho
  obtain ⟨h1, h2⟩ := h g args v ho
  refine ⟨h1, fun F w vs hF hv => ?_⟩
  obtain ⟨⟨h3, h4⟩, _⟩ := hcall (Fo.of F) Pl.zero St.zero w (.f g) args vs (fun v' S' => v' = v ∧ S' = St.zero) (fun _ _ => False) (R.zero hF) (Nat.le_refl _) hv (h2 _ _ ⟨rfl, rfl⟩)
  refine ⟨h3, h4.mono fun e w' he => ?_⟩
  cases e with
  | returned u =>
    obtain ⟨ρ', S', x, k1, k2, k3, rfl, rfl⟩ := he
    have hro : ∀ b, Ro (Fo.of F) ρ' St.zero w' b → Ro (Fo.of F) Pl.zero St.zero w' b ∧ w'.heap[b]? = w'.heap[b]? := fun b hb => ⟨⟨hb.1, fun ⟨_, _, h, _⟩ => (nomatch h), hb.2.2⟩, rfl⟩
    exact ⟨u, rfl, k2.size, fun b hb => (k2.out b hb fun ⟨_, _, h, _⟩ => (nomatch h)).2, k2.calm, k3.plain hro h1⟩
  | panicked chain =>
    obtain ⟨ρ', S', p, v, _, _, _, _, k⟩ := he
    exact k.elim
  | outgrown => exact he.elim

/-- Answers side by side. -/
def Orc.or (O O' : Orc) : Orc := fun g args => match O g args with
  | some v => some v
  | none => O' g args

theorem OrcSound.or {P : Program} {O O' : Orc} (h : OrcSound P O) (h' : OrcSound P O') : OrcSound P (O.or O') := by
  intro g args v ho
  unfold Orc.or at ho
  split at ho
  · rename_i v' hv'
    cases ho
    exact h g args _ hv'
  · exact h' g args v ho

theorem OrcSound.none {P : Program} : OrcSound P (fun _ _ => none) := fun _ _ _ h => nomatch h

/-- A run with known answers. -/
def PKO (O : Orc) (A : FuncId → Option AFunc) (LF n g : Nat) (args : List Vl) (s : St) (v : AVal) (s' : St) : Prop := ∀ (K : AVal → St → Prop) (PN : APan → St → Prop), evO badP allP O A LF n (.f g) args s K PN = K v s'

theorem orc_of_PK {P : Program} (hm : P.follows .mixedOrders = true) {A : FuncId → Option AFunc} (hA : TabOk P A) {LF n : Nat} {O : Orc}
    (h : ∀ g args v, O g args = some v → plainA v = true ∧ PK A LF n g args St.zero v St.zero) : OrcSound P O :=
  orc_of_run (evCall_sound hm hA LF n) fun g args v ho => ⟨(h g args v ho).1, fun K PN hk => ((h g args v ho).2 K PN).mpr hk⟩

theorem orc_of_PKO {P : Program} (hm : P.follows .mixedOrders = true) {A : FuncId → Option AFunc} (hA : TabOk P A) {LF n : Nat} {O O' : Orc} (hO : OrcSound P O)
    (h : ∀ g args v, O' g args = some v → plainA v = true ∧ PKO O A LF n g args St.zero v St.zero) : OrcSound P O' :=
  orc_of_run (evO_sound hm hO hA LF n) fun g args v ho => ⟨(h g args v ho).1, fun K PN hk => ((h g args v ho).2 K PN).mpr hk⟩

end Go.Rf
