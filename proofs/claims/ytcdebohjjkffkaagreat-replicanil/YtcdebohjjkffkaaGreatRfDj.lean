/- From runs to a law's statement: nothing that was there is changed, and 'true' is answered. -/
import Derived.Test.YtcdebohjjkffkaaGreatRfDi
import Derived.ProofKit
import Derived.Carry
import Derived.OpenShut
import Derived.JoinedOf
namespace Go.Rf
set_option linter.unusedVariables false
set_option linter.unusedSimpArgs false
open Go Go.ChangeShapes Go.WideShapes Go.ChangeAt Go.RowKit

/-- A law's run. -/
theorem law_calls {P : Program} {call : CallT Prop} (hcall : CallSound P call) {g : FuncId} {args : List Vl} {vs : Array Value} {W : World} (hv : All2 (VlR (Fo.of fun _ => False) Pl.zero St.zero W P) args vs.toList)
    (h : ∀ (K : AVal → St → Prop) (PN : APan → St → Prop), (∀ S, K (dv (.bool true)) S) → call (.f g) args St.zero K PN) :
    Calls P g vs W fun e W' => e = .returned (.bool true) ∧ W.heap.size ≤ W'.heap.size ∧ (∀ b, b < W.heap.size → W'.heap[b]? = W.heap[b]?) ∧ Calm W W' := by
  obtain ⟨⟨_, h4⟩, _⟩ := hcall (Fo.of fun _ => False) Pl.zero St.zero W (.f g) args vs (fun v' _ => v' = dv (.bool true)) (fun _ _ => False) (R.zero fun _ h => h.elim) (Nat.le_refl _) hv (h _ _ fun _ => rfl)
  refine (callsIn_wide.1 h4).mono fun e w' he => ?_
  cases e with
  | returned u =>
    obtain ⟨ρ', S', x, k1, k2, k3, rfl⟩ := he
    have hu : u = .bool true := by
      cases (show VD _ _ _ _ from k3); rfl
    exact ⟨by rw [hu], k2.size, fun b hb => (k2.out b hb fun ⟨_, _, h, _⟩ => (nomatch h)).2, k2.calm⟩
  | panicked chain =>
    obtain ⟨ρ', S', p, v, _, _, _, _, k⟩ := he
    exact k.elim
  | outgrown => exact he.elim

theorem law_run {P : Program} (hm : P.follows .mixedOrders = true) {A : FuncId → Option AFunc} (hA : TabOk P A) {LF n : Nat} {O : Orc} (hO : OrcSound P O) {g : FuncId} {args : List Vl} {s' : St} {vs : Array Value} {W : World}
    (hv : All2 (VlR (Fo.of fun _ => False) Pl.zero St.zero W P) args vs.toList) (h : PKO O A LF n g args St.zero (dv (.bool true)) s') :
    Calls P g vs W fun e W' => e = .returned (.bool true) ∧ W.heap.size ≤ W'.heap.size ∧ (∀ b, b < W.heap.size → W'.heap[b]? = W.heap[b]?) ∧ Calm W W' :=
  law_calls (evO_sound hm hO hA LF n) hv fun K PN hK => (h K PN).mpr (hK _)

section
variable {H : Type} {enc : TypeId × Value → H} {P : Program} {W W' : World}

theorem below_of (hsz : W.heap.size ≤ W'.heap.size) (hk : ∀ b, b < W.heap.size → W'.heap[b]? = W.heap[b]?) : ∀ p : MemPlace, p.block < W.heap.size → W.sameAt W' p := by
  intro p hp
  have := hk _ hp
  cases p with
  | cell b off => simp only [MemPlace.block] at this; simp only [World.sameAt, World.cell?, this]
  | map b => simpa only [World.sameAt, MemPlace.block] using this

theorem trodAll_keep (hl : laidOutB P = true) (hsz : W.heap.size ≤ W'.heap.size) (hk : ∀ b, b < W.heap.size → W'.heap[b]? = W.heap[b]?) :
    ∀ (ts : List TypeId) (vs : List Value) (ds : List (DataW H)) (ps : List MemPlace), (∀ t ∈ ts, P.readableRec t = true ∧ t < P.types.size) → (∀ x ∈ ps, x.block < W.heap.size) →
      DataW.TrodAll enc P W 0 (fun _ => true) true ts vs ds ps → DataW.TrodAll enc P W' 0 (fun b => decide (b < W.heap.size)) true ts vs ds ps
  | [], [], [], _, _, _, h => h
  | [], _ :: _, _, _, _, _, h => h.elim
  | [], [], _ :: _, _, _, _, h => h.elim
  | _ :: _, [], _, _, _, _, h => h.elim
  | _ :: _, _ :: _, [], _, _, _, h => h.elim
  | t :: ts, v :: vs, d :: ds, ps, ht, hp, h => by
    obtain ⟨p, q, h1, h2, rfl⟩ := h
    obtain ⟨k1, k2⟩ := ht t (by simp)
    refine ⟨p, q, ?_, trodAll_keep hl hsz hk ts vs ds q (fun t' h' => ht t' (by simp [h'])) (fun x hx => hp x (by simp [hx])) h2, rfl⟩
    exact WideElems.Trod_stays hl k1 k2 h1 (fun x hx => below_of hsz hk x (hp x (by simp [hx]))) (fun x hx => by simpa using hp x (by simp [hx]))

theorem keptBut_keep (hk : ∀ b, b < W.heap.size → W'.heap[b]? = W.heap[b]?) (hc : Calm W W') (may : MemPlace → Prop) : W.keptBut W' may := by
  refine ⟨hc.1, hc.2, fun i hi => ?_⟩
  rw [hk i hi]
  cases h : W.heap[i]? with
  | none => rfl
  | some o => cases o <;> simp

/-- What a law's statement asks behind the call. -/
theorem law_post {fn : Func} {s : ChangeSpec} {args : Array Value} {ds : List (DataW H)} {before : List MemPlace} {t : TypeId} (hl : laidOutB P = true) (hts : fn.params.toList.all (fun t => P.readableRec t && decide (t < P.types.size)) = true)
    (hvs : s.vars = []) (hfn : s.fn H ds = { results := [.lit (.bool true)], args := ds }) (hrt : fn.resultTypes = #[t]) (htb : P.underlying t = some .bool)
    (hW : DataW.Whole enc P fn.params.toList s.vars false W args.toList ds [] before) (hsz : W.heap.size ≤ W'.heap.size) (hk : ∀ b, b < W.heap.size → W'.heap[b]? = W.heap[b]?) (hc : Calm W W') :
    s.post enc P fn false true false false W args (.bool true) W' := by
  have hlt := hW.lt
  have hW2 := hW
  obtain ⟨p, q, hA, hV, rfl, _, _⟩ := hW2
  rw [hvs] at hV
  obtain ⟨_, rfl⟩ := trodVars_none hV
  have hp : ∀ x ∈ p, x.block < W.heap.size := fun x hx => by simpa using hlt x (by simp [hx])
  refine ⟨ds, [], p ++ [], [], p, [], hW, ?_, ?_, ?_, keptBut_keep hk hc _, fun h => nomatch h⟩
  · rw [List.append_nil, hfn, hrt]
    exact trodAll_cons_mk (shut_bool htb _) trodAll_mk0
  · rw [List.append_nil, hfn]
    exact trodAll_keep hl hsz hk _ _ _ _ (fun t ht => by
      have := List.all_eq_true.1 hts t ht
      simp only [Bool.and_eq_true, decide_eq_true_eq] at this
      exact this) hp hA
  · rw [List.append_nil, hfn, hvs]
    exact (fun _ => rfl : ∀ _ : Unit, _) ()

/-! ## Arguments -/

theorem cell_int {r : Reach} {base : Nat} {u : TypeId} {k : IntKind} {v : Value} (hu : P.underlying u = some (.int k)) (h : Cell.okWide P W r base u v) : ∃ n, v = .int k n := by
  unfold Cell.okWide at h
  rw [hu] at h
  cases v <;> simp_all [Cell.ok]
theorem cell_str {r : Reach} {base : Nat} {u : TypeId} {v : Value} (hu : P.underlying u = some .string) (h : Cell.okWide P W r base u v) : ∃ s, v = .string s := by
  unfold Cell.okWide at h
  rw [hu] at h
  cases v <;> simp_all [Cell.ok]
theorem cell_bool {r : Reach} {base : Nat} {u : TypeId} {v : Value} (hu : P.underlying u = some .bool) (h : Cell.okWide P W r base u v) : ∃ s, v = .bool s := by
  unfold Cell.okWide at h
  rw [hu] at h
  cases v <;> simp_all [Cell.ok]

/-- A slice of which only the length is told. -/
theorem cell_sl {r : Reach} {base : Nat} {u e : TypeId} {v : Value} (ro : Nat → Prop) (hu : P.underlying u = some (.slice e)) (h : Cell.okWide P W r base u v) : ∃ els : List (List Dat), VD W ro (.sl els false) v := by
  have key : ∀ (a : Option Addr) (len cap : Nat), len ≤ cap → VD W ro (.sl (List.replicate len []) false) (.slice a len cap) := by
    intro a len cap hle
    have hfl : (List.replicate len ([] : List Dat)).flatten = [] := by simp
    have := VD.sl (w := W) (ro := ro) (List.replicate len []) false a cap 0 0 0 [] (by simpa using hle) (fun h => nomatch h) (fun e he => by rw [(List.mem_replicate.1 he).2]; rfl) (by rw [hfl]; rfl) (fun h => absurd rfl h) (fun k x v h1 => by rw [hfl] at h1; cases h1)
    rwa [List.length_replicate] at this
  cases v with
  | slice a len cap =>
    cases a with
    | none =>
      cases len with
      | zero => exact ⟨_, key _ _ _ (Nat.zero_le _)⟩
      | succ n => simp [Cell.okWide, Cell.ok, hu] at h
    | some a =>
      have h' : len ≤ cap := by
        simp only [Cell.okWide, Cell.ok, hu] at h
        exact h.1
      exact ⟨_, key _ _ _ h'⟩
  | _ => simp [Cell.okWide, Cell.ok, hu] at h

/-- A struct's cells, each by its type. -/
theorem agg_cells {r : Reach} {base : Nat} {t : TypeId} {fs : Array Field} {v : Value} {ts : List TypeId} (ht : P.underlying t = some (.struct fs)) (hts : P.cellTypes P.depth t = some ts) (hn : P.cellsOf t = ts.length) (h : Value.okWide P W r base t v) :
    ∃ cs : Array Value, v = .agg cs ∧ All2 (fun u c => Cell.okWide P W r base u c) ts cs.toList := by
  unfold Value.okWide at h
  rw [ht] at h
  obtain ⟨cs, rfl, hsz, ts', h1, _, h3⟩ := h
  rw [hts] at h1; cases h1
  refine ⟨cs, rfl, All2.of_get (by simp [hsz, hn]) fun k u c hu hc => ?_⟩
  rw [Array.getElem?_toList] at hc
  obtain ⟨u', hu', hok⟩ := h3 k c hc
  have hk : k < ts.length := (List.getElem?_eq_some_iff.1 hu).1
  rw [Nat.mod_eq_of_lt hk, hu] at hu'
  cases hu'
  exact hok

end
/-! ## A table, entry by entry -/

def PM.All {α : Type} (Q : Nat → α → Prop) : PM α → (Nat → Nat) → Prop
  | .nil, _ => True
  | .node v l r, f => (∀ x, v = some x → Q (f 0) x) ∧ PM.All Q l (fun k => f (2 * k + 1)) ∧ PM.All Q r (fun k => f (2 * k + 2))

theorem PM.all_some {α : Type} {Q : Nat → α → Prop} {i : Nat} {a : α} (h : Q i a) : ∀ x, some a = some x → Q i x := fun _ e => Option.some.inj e ▸ h
theorem PM.all_none {α : Type} {Q : Nat → α → Prop} {i : Nat} : ∀ x, (none : Option α) = some x → Q i x := fun _ e => nomatch e

theorem PM.All.get {α : Type} {Q : Nat → α → Prop} : ∀ (m : PM α) (f : Nat → Nat) (n : Nat) (x : α), PM.All Q m f → m.get n = some x → Q (f n) x
  | .nil, _, _, _, _, h => nomatch h
  | .node v l r, f, n, x, ha, h => by
    obtain ⟨h1, h2, h3⟩ := ha
    simp only [PM.get] at h
    split at h
    · rename_i hb
      rw [beq_iff] at hb
      subst hb
      exact h1 x h
    · rename_i hb
      have hn : n ≠ 0 := fun e => by rw [beq_iff.2 e] at hb; cases hb
      split at h
      · rename_i hm
        rw [beq_iff] at hm
        have := PM.All.get l _ _ x h2 h
        have e : 2 * (n / 2) + 1 = n := by
          have hm : n % 2 = 1 := hm
          omega
        have this : Q (f (2 * Nat.div n 2 + 1)) x := this
        rw [show 2 * Nat.div n 2 + 1 = n from e] at this
        exact this
      · rename_i hm
        have hm : ¬ n % 2 = 1 := fun e => by
          have e : Nat.mod n 2 = 1 := e
          rw [beq_iff.2 e] at hm; cases hm
        have := PM.All.get r _ _ x h3 h
        have e : 2 * (n / 2 - 1) + 2 = n := by omega
        have this : Q (f (2 * Nat.pred (Nat.div n 2) + 2)) x := this
        rw [show 2 * Nat.pred (Nat.div n 2) + 2 = n from e] at this
        exact this

end Go.Rf
