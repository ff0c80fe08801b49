/- What a call achieves, and the operations with an effect, calls and panics among them. -/
import Derived.Test.YtcdebohjjkffkaaGreatRfJ
import Derived.RangeFuncIn
namespace Go.Rf
set_option linter.unusedVariables false
set_option linter.unusedSimpArgs false
open Go

/-- The fence: nothing is barred; it says only in which round one is. -/
def fence (G : Option Nat) : Fence := { Fence.wide with round := G }

theorem fence_fn (G : Option Nat) (f : FuncId) : (fence G).fn f := trivial
theorem fence_depth (G : Option Nat) : (fence G).depth.isSome = true → 1 ≤ 0 := fun h => nomatch h

section
variable (F : Fo) (ρ : Pl) (S : St) (w : World) (P : Program)

/-- The value that a panic carries. -/
def PanR (p : APan) (v : Value) : Prop := CR F ρ S w P (.ifc p.t p.agg p.cs) v

/-- What stands at a call's end. -/
def EndOk (K : AVal → St → Prop) (PN : APan → St → Prop) : Ending → World → Prop
  | .returned v, w' => ∃ ρ' S' x, R F ρ' S' w' P ∧ Ext ρ S w ρ' S' w' ∧ AR F ρ' S' w' P x v ∧ K x S'
  | .panicked chain, w' => ∃ ρ' S' p v, chain = [{ v, recovered := false }] ∧ R F ρ' S' w' P ∧ Ext ρ S w ρ' S' w' ∧ PanR F ρ' S' w' P p v ∧ PN p S'
  | .outgrown, _ => False

/-- A function that is entered when it is called. -/
def Enters (P : Program) (g : FuncId) : Prop := ∀ (args : Array Value) (w : World), (callFunc g args).run P w = .ok (.enter g args) w

def TgtRun (P : Program) (ρ : Pl) (w : World) (vs : Array Value) (E : Ending → World → Prop) : Tgt → Prop
  | .f g => Enters P g ∧ CallsIn Fence.wide 0 P g vs w E
  | .yld id => (ρ id).isSome = true ∧ ∃ l f tmps asg body w', (∀ r, (Instr.yield r vs).run P w = .ok (.round l f tmps asg body) w' ∨ r ≠ (ρ.at id).1) ∧ RoundIn Fence.wide 0 P l f tmps asg body w' E

end

/-- Calls do what the machine says. -/
def CallSound (P : Program) (call : CallT Prop) : Prop :=
  ∀ (F : Fo) (ρ : Pl) (S : St) (w : World) (tg : Tgt) (args : List Vl) (vs : Array Value) (K : AVal → St → Prop) (PN : APan → St → Prop),
    R F ρ S w P → S.floor ≤ S.next → All2 (VlR F ρ S w P) args vs.toList → call tg args S K PN →
    TgtRun P ρ w vs (EndOk F ρ S w P K PN) tg ∧ (∀ id, tg = .yld id → ∃ o, S.get id = some o ∧ o.tag = 3)

section
variable {F : Fo} {ρ : Pl} {S : St} {w w' w1 : World} {P : Program} {G : Option Nat}

theorem vls_ok {slots : PM AVal} {a : Act} (hs : SlR F ρ S w P slots a.tmps) : ∀ (os : List Operand) (ys : List AOpd) (l : List Vl), mapO opd os = some ys → vls? (ys.map (rdS slots)) = some l → All2 (VlR F ρ S w P) l (os.map a.eval)
  | [], ys, l, h, h' => by
    simp only [mapO, Option.some.injEq] at h; subst h
    simp only [List.map_nil, vls?, Option.some.injEq] at h'; subst h'
    trivial
  | o :: os, ys, l, h, h' => by
    simp only [mapO] at h
    split at h
    · rename_i y hy
      split at h
      · rename_i ys' hys
        cases h
        simp only [List.map_cons] at h'
        have hx := opd_ok hs hy
        cases hz : rdS slots y with
        | v x =>
          rw [hz] at h' hx
          simp only [vls?] at h'
          split at h'
          · rename_i l' hl
            cases h'
            exact ⟨hx, vls_ok hs os ys' l' hys hl⟩
          · cases h'
        | tup _ => rw [hz] at h'; simp [vls?] at h'
        | bad => rw [hz] at h'; simp [vls?] at h'
      · cases h
    · cases h

theorem V0.vl {x : Vl0} {v : Value} (h : V0 F ρ S w x v) : VlR F ρ S w P x.vl v := by
  unfold V0 at h
  unfold Vl0.vl
  split at h
  · rename_i c h1 h2
    rw [h1, h2]; exact h
  · rename_i hne
    obtain ⟨a, e, ha⟩ := h
    split
    · rename_i c h1 h2; exact absurd h2 (hne c h1)
    · exact ⟨a, e, All2.map_left.2 ha⟩

theorem fenced_call {o : Oper} {a : Act} : ∀ f, o.about P w a.eval = some f → (fence G).fn f := fun _ _ => trivial

/-- An operation that ends with a value. -/
theorem wp_value {o : Oper} {a : Act} {next : Act → World → Prop} {Q : Exit → Act → World → Prop} {u : Value} (hd : ∀ c, o.op ≠ .defer c) (h : (execOp a.eval o).run P w = .ok (.value u) w') (hn : next (a.put o.dst u) w') :
    o.wpIn (fence G) 0 P a w next Q := by
  refine ⟨fenced_call, ?_⟩
  rw [Oper.semAt_eq _ _ _ hd, h]
  exact hn

theorem wp_skip {o : Oper} {a : Act} {next : Act → World → Prop} {Q : Exit → Act → World → Prop} (hd : ∀ c, o.op ≠ .defer c) (h : (execOp a.eval o).run P w = .ok .skip w') (hn : next (a.put o.dst undef) w') :
    o.wpIn (fence G) 0 P a w next Q := by
  refine ⟨fenced_call, ?_⟩
  rw [Oper.semAt_eq _ _ _ hd, h]
  exact hn

/-- An operation that calls. -/
theorem wp_call {o : Oper} {a : Act} {next : Act → World → Prop} {Q : Exit → Act → World → Prop} {tg : Tgt} {vs : Array Value} {K : AVal → St → Prop} {PN : APan → St → Prop} (hd : ∀ c, o.op ≠ .defer c)
    (hrun : match tg with
      | .f g => Enters P g → (execOp a.eval o).run P w = .ok (.enter g vs) w
      | .yld id => (execOp a.eval o).run P w = (Instr.yield (ρ.at id).1 vs).run P w)
    (h : TgtRun P ρ w vs (EndOk F ρ S w P K PN) tg)
    (hK : ∀ v u S' ρ' w', R F ρ' S' w' P → Ext ρ S w ρ' S' w' → AR F ρ' S' w' P v u → K v S' → next (a.put o.dst u) w')
    (hP : ∀ p v S' ρ' w', R F ρ' S' w' P → Ext ρ S w ρ' S' w' → PanR F ρ' S' w' P p v → PN p S' → Q (.panic [{ v, recovered := false }]) a w') :
    o.wpIn (fence G) 0 P a w next Q := by
  have hend : ∀ e w', EndOk F ρ S w P K PN e w' → (match e, w' with
      | .returned v, w'' => next (a.put o.dst v) w''
      | .panicked chain, w'' => Q (.panic chain) a w''
      | .outgrown, _ => LetsOut Q) := by
    intro e w' he
    cases e with
    | returned v => obtain ⟨ρ', S', x, h1, h2, h3, h4⟩ := he; exact hK _ _ _ _ _ h1 h2 h3 h4
    | panicked chain => obtain ⟨ρ', S', p, v, rfl, h1, h2, h3, h4⟩ := he; exact hP _ _ _ _ _ h1 h2 h3 h4
    | outgrown => exact he.elim
  refine ⟨fenced_call, ?_⟩
  rw [Oper.semAt_eq _ _ _ hd]
  cases tg with
  | f g =>
    rw [hrun h.1]
    refine ⟨fence_depth G, ?_⟩
    have : CallsIn (fence G) (0 - 1) P g vs w (EndOk F ρ S w P K PN) := h.2
    exact this.mono hend
  | yld id =>
    obtain ⟨_, l, f, tmps, asg, body, w2, hy, hr⟩ := h
    rw [hrun, (hy (ρ.at id).1).resolve_right (fun h => h rfl)]
    refine ⟨fence_depth G, ?_⟩
    have : RoundIn (fence G) (0 - 1) P l f tmps asg body w2 (EndOk F ρ S w P K PN) := hr
    exact this.mono hend

theorem run_via {t e : TypeId} {v : Value} (ht : P.underlying t = some (.pointer e)) : (receiverVia t v #[] true).run P w = .ok v w := by
  simp [receiverVia, follow, receiverAt, run_und ht, Place.get]

/-- A function value, called. -/
theorem run_target {c : Cell} {v : Value} {tg : Tgt} {pre post vs : List Vl} {args : Array Value} (hc : CR F ρ S w P c v) (ht : target c = some (tg, pre, post))
    (hv : All2 (VlR F ρ S w P) vs args.toList) (hyl : ∀ id, tg = .yld id → ∃ o, S.get id = some o ∧ o.tag = 3) :
    ∃ us : Array Value, All2 (VlR F ρ S w P) (pre ++ vs ++ post) us.toList ∧ ∃ d : Deferred, (∀ w1, (Deferred.ofValue v args).run P w1 = .ok d w1) ∧
      (∃ fv cap, d.target = .fn fv cap) ∧
      (match tg with
        | .f g => Enters P g → ∀ w1, (invoke d.target d.args).run P w1 = .ok (.enter g us) w1
        | .yld id => ∀ w1, (invoke d.target d.args).run P w1 = (Instr.yield (ρ.at id).1 us).run P w1) := by
  unfold target at ht
  split at ht
  · rename_i f g first caps
    cases ht
    obtain ⟨x, y, rfl, h1, h2, h3, h4⟩ := hc
    have hpre : All2 (VlR F ρ S w P) (first.map Vl0.vl) x.toList := All2.map_left.2 (h1.mono fun _ _ h => V0.vl h)
    have hpost : All2 (VlR F ρ S w P) (caps.map Vl0.vl) y.toList := All2.map_left.2 (h2.mono fun _ _ h => V0.vl h)
    refine ⟨x ++ args ++ y, by rw [Array.toList_append, Array.toList_append]; exact (hpre.append hv).append hpost, { target := .fn f y, args := x ++ args }, fun _ => rfl, ⟨_, _, rfl⟩, fun hen w1 => ?_⟩
    unfold fnOf at h3
    split at h3
    · cases h3
      exact hen _ w1
    · rename_i t path k
      split at h3
      · rename_i e hp ht
        cases h3
        rcases h4 with ⟨_, h4⟩ | ⟨h4, h5⟩
        · cases h4
        · subst h5
          have hy : y = #[] := by
            have := h2.nil_inv
            rw [← Array.toList_inj]; exact this
          have hpa : path = #[] := by rw [← Array.toList_inj]; exact hp
          subst hy; subst hpa
          cases first with
          | nil => exact absurd rfl h4
          | cons f0 fs =>
            obtain ⟨b, x', hx, _, _⟩ := h1.cons_inv
            have hx' : x = #[b] ++ x'.toArray := by rw [← Array.toList_inj]; simp [hx]
            have hargs : (x ++ args)[0]? = some b := by rw [← Array.getElem?_toList, Array.toList_append, hx]; rfl
            have hcat : #[b] ++ (x ++ args).extract 1 (x ++ args).size = x ++ args := by
              have hl : (x ++ args).toList = b :: (x' ++ args.toList) := by rw [Array.toList_append, hx]; rfl
              have hs : (x ++ args).size = (x' ++ args.toList).length + 1 := by rw [← Array.length_toList, hl]; rfl
              apply Array.ext'
              rw [Array.toList_append, Array.toList_extract, hl, hs]
              simp [List.extract_eq_take_drop]
              exact List.take_of_length_le (by simp)
            show (invoke (.fn (.via t #[] _ true) #[]) (x ++ args)).run P w1 = _
            simp only [invoke, hargs, Sem.run_bind, run_via ht, Result.andThen_ok, hcat, Array.append_empty]
            exact hen _ w1
      · cases h3
    · cases h3
  · rename_i id
    cases ht
    obtain ⟨h1, r, rfl, h2⟩ := hc
    obtain ⟨o, h3, h4⟩ := hyl id rfl
    have hr := h2 o h3 h4
    subst hr
    refine ⟨args, by simpa using hv, { target := .fn (.yield (ρ.at id).1) #[], args := #[] ++ args }, fun _ => rfl, ⟨_, _, rfl⟩, fun w1 => ?_⟩
    simp [invoke]
  · cases ht

theorem unit_run {s : Sem Unit} (h : s.run P w = .ok () w') : (do s; pure Next.skip : Sem Next).run P w = .ok .skip w' := by
  simp [h]

theorem value_run' {s : Sem Value} {u : Value} (h : s.run P w = .ok u w') : (do pure (Next.value (← s)) : Sem Next).run P w = .ok (.value u) w' := by
  simp [h]

theorem undef_ok {S' : St} {ρ' : Pl} : AR F ρ' S' w' P (.tup []) undef := ⟨#[], rfl, trivial⟩

theorem run_goPanic {t : TypeId} {u : Value} : (Instr.panic (.iface t u)).run P w = .halt (.panic (.iface t u)) w := rfl

/-- Built-in functions with an effect. -/
theorem evB_ok {call : CallT Prop} (hR : R F ρ S w P) (hfn : S.floor ≤ S.next) {slots : PM AVal} {a : Act} (hs : SlR F ρ S w P slots a.tmps) {b : Builtin} {ts : Array TypeId} {args : Array Operand} {op : EOp}
    (hc : compBuiltinE P b ts.toList args.toList = some op) {K : AVal → St → Prop} {PN : APan → St → Prop} (h : evE badP allP call (rdS slots) S K PN op) (ty : TypeId) (cs : Array Bool) :
    ∃ v u S' ρ' w', (builtin b ts ty cs (args.map a.eval)).run P w = .ok (.value u) w' ∧ R F ρ' S' w' P ∧ Ext ρ S w ρ' S' w' ∧ AR F ρ' S' w' P v u ∧ K v S' := by
  unfold compBuiltinE at hc
  split at hc
  · rename_i t u x y hts hargs
    have e1 : ts = #[t, u] := by rw [← Array.toList_inj]; exact hts
    have e2 : args = #[x, y] := by rw [← Array.toList_inj]; exact hargs
    subst e1; subst e2
    split at hc
    · rename_i e ht
      simp only [Option.bind_eq_bind, Option.bind_eq_some_iff] at hc
      obtain ⟨i, hi, z, hz, hc⟩ := hc
      have fin : ∀ du, P.underlying u = some du → (∀ k, du ≠ .int k) → (if (decide (i.size = 0) || decide (i.bytes = 0) || decide (z.cells.size ≠ i.size)) = true then none else
            (opd x).bind fun x' => (opd y).bind fun y' => some (EOp.append e i.size i.bytes x' y')) = some op →
          ∃ v r S' ρ' w', (builtin .append #[t, u] ty cs (#[x, y].map a.eval)).run P w = .ok (.value r) w' ∧ R F ρ' S' w' P ∧ Ext ρ S w ρ' S' w' ∧ AR F ρ' S' w' P v r ∧ K v S' := by
        intro du hu hdu hc
        split at hc
        · cases hc
        · rename_i hcond
          simp only [Option.bind_eq_some_iff, Option.some.injEq] at hc
          obtain ⟨x', hx, y', hy, rfl⟩ := hc
          simp only [Bool.or_eq_true, decide_eq_true_eq, not_or, ne_eq, Decidable.not_not] at hcond
          simp only [evE, orBad] at h
          split at h
          · rename_i v S' heq
            obtain ⟨r, w', ρ', g1, g2⟩ := evAppend_ok (ty := ty) hR hfn ht hu hdu hi hz hcond.2 hcond.1.1 hcond.1.2 heq (opd_ok hs hx) (opd_ok hs hy)
            exact ⟨v, r, S', ρ', w', value_run' (by simpa using g1), g2.r, g2.ext, g2.val, h⟩
          · exact h.elim
      split at hc
      · rename_i e' hu; exact fin _ hu (fun _ => by simp) hc
      · rename_i hu; exact fin _ hu (fun _ => by simp) hc
      · cases hc
    · cases hc
  · rename_i t u x y hts hargs
    have e1 : ts = #[t, u] := by rw [← Array.toList_inj]; exact hts
    have e2 : args = #[x, y] := by rw [← Array.toList_inj]; exact hargs
    subst e1; subst e2
    split at hc
    · rename_i e ht
      simp only [Option.bind_eq_bind, Option.bind_eq_some_iff] at hc
      obtain ⟨s, hsz, hc⟩ := hc
      split at hc
      · cases hc
      · rename_i h0
        split at hc
        · simp only [Option.bind_eq_some_iff, Option.some.injEq] at hc
          obtain ⟨x', hx, y', hy, rfl⟩ := hc
          simp only [evE, orBad] at h
          split at h
          · rename_i v S' heq
            obtain ⟨r, w', g1, g2, g3, g4⟩ := evCopy_ok (u := u) (ty := ty) hR ht hsz h0 heq (opd_ok hs hx) (opd_ok hs hy)
            exact ⟨v, r, S', ρ, w', value_run' (by simpa using g1), g2, g3, g4, h⟩
          · exact h.elim
        · cases hc
    · cases hc
  · rename_i t rest x y hts hargs
    have e2 : args = #[x, y] := by rw [← Array.toList_inj]; exact hargs
    have e1 : ts[0]? = some t := by rw [← Array.getElem?_toList, hts]; rfl
    subst e2
    split at hc
    · rename_i kt et ht
      simp only [Option.bind_eq_bind, Option.bind_eq_some_iff, Option.some.injEq] at hc
      obtain ⟨k, hk, x', hx, y', hy, rfl⟩ := hc
      simp only [evE, orBad, unitOf] at h
      split at h
      · rename_i v S' heq
        split at heq
        · rename_i S1 hst
          cases heq
          obtain ⟨w', g1, g2, g3⟩ := evDel_ok (ty := ty) hR e1 ht hk hst (opd_ok hs hx) (opd_ok hs hy)
          exact ⟨.tup [], _, _, ρ, w', value_run' (by simpa using g1), g2, g3, ⟨#[], rfl, trivial⟩, h⟩
        · cases heq
      · exact h.elim
    · cases hc
  · cases hc

set_option maxHeartbeats 1000000 in
/-- An operation with an effect does what the machine says. -/
theorem evE_ok {call : CallT Prop} (hcall : CallSound P call) (hR : R F ρ S w P) (hfn : S.floor ≤ S.next) {slots : PM AVal} {a : Act} (hs : SlR F ρ S w P slots a.tmps) {o : Oper} {op : EOp} (hc : compE P o.op = some op)
    {K : AVal → St → Prop} {PN : APan → St → Prop} (h : evE badP allP call (rdS slots) S K PN op) {next : Act → World → Prop} {Q : Exit → Act → World → Prop}
    (hK : ∀ v u S' ρ' w', R F ρ' S' w' P → Ext ρ S w ρ' S' w' → AR F ρ' S' w' P v u → K v S' → next (a.put o.dst u) w')
    (hP : ∀ p v S' ρ' w', R F ρ' S' w' P → Ext ρ S w ρ' S' w' → PanR F ρ' S' w' P p v → PN p S' → Q (.panic [{ v, recovered := false }]) a w') :
    o.wpIn (fence G) 0 P a w next Q := by
  have hd : ∀ c, o.op ≠ .defer c := by intro c e; rw [e] at hc; simp [compE] at hc
  have hex : execOp a.eval o = execOp a.eval o := rfl
  cases ho : o.op with
  | store t x v =>
    rw [ho] at hc
    simp only [compE, Option.bind_eq_bind, Option.bind_eq_some_iff] at hc
    obtain ⟨s, hsz, hc⟩ := hc
    split at hc
    · cases hc
    · simp only [Option.bind_eq_some_iff, Option.some.injEq] at hc
      obtain ⟨x', hx, v', hv, rfl⟩ := hc
      simp only [evE, orBad, unitOf] at h
      split at h
      · rename_i v0 S' heq
        split at heq
        · rename_i S1 hst
          cases heq
          obtain ⟨w', g1, g2, g3⟩ := evStore_ok hR hsz hst (opd_ok hs hx) (opd_ok hs hv)
          refine wp_skip hd (w' := w') ?_ (hK _ _ _ _ _ g2 g3 undef_ok h)
          unfold execOp; rw [ho]; exact unit_run g1
        · cases heq
      · exact h.elim
  | mapUpdate t m k v =>
    rw [ho] at hc
    simp only [compE] at hc
    split at hc
    · rename_i kt et ht
      simp only [Option.bind_eq_bind, Option.bind_eq_some_iff, Option.some.injEq] at hc
      obtain ⟨kk, hk, m', hm, k', hkk, v', hv, rfl⟩ := hc
      simp only [evE, orBad, unitOf] at h
      split at h
      · rename_i v0 S' heq
        split at heq
        · rename_i S1 hst
          cases heq
          obtain ⟨w', g1, g2, g3⟩ := evMapup_ok hR ht hk hst (opd_ok hs hm) (opd_ok hs hkk) (opd_ok hs hv)
          refine wp_skip hd (w' := w') ?_ (hK _ _ _ _ _ g2 g3 undef_ok h)
          unfold execOp; rw [ho]; exact unit_run g1
        · cases heq
      · exact h.elim
    · cases hc
  | insert t m k v =>
    rw [ho] at hc
    simp only [compE] at hc
    split at hc
    · rename_i kt et ht
      simp only [Option.bind_eq_bind, Option.bind_eq_some_iff, Option.some.injEq] at hc
      obtain ⟨kk, hk, m', hm, k', hkk, v', hv, rfl⟩ := hc
      simp only [evE, orBad, unitOf] at h
      split at h
      · rename_i v0 S' heq
        split at heq
        · rename_i S1 hst
          cases heq
          obtain ⟨w', g1, g2, g3⟩ := evMapup_ok hR ht hk hst (opd_ok hs hm) (opd_ok hs hkk) (opd_ok hs hv)
          refine wp_skip hd (w' := w') ?_ (hK _ _ _ _ _ g2 g3 undef_ok h)
          unfold execOp; rw [ho]; exact unit_run g1
        · cases heq
      · exact h.elim
    · cases hc
  | next x st =>
    rw [ho] at hc
    simp only [compE, Option.map_eq_some_iff] at hc
    obtain ⟨x', hx, rfl⟩ := hc
    cases st with
    | true =>
      simp only [evE, orBad] at h
      split at h
      · rename_i v0 S' heq
        obtain ⟨u, w', g1, g2, g3, g4⟩ := evNextS_ok (ty := o.type) hR heq (opd_ok hs hx)
        refine wp_value hd (w' := w') ?_ (hK _ _ _ _ _ g2 g3 g4 h)
        unfold execOp; rw [ho]; exact value_run' g1
      · exact h.elim
    | false =>
      obtain ⟨u, w', v, S', g1, g2, g3, g4, g5⟩ := evNextM_ok (ty := o.type) hR h (opd_ok hs hx)
      refine wp_value hd (w' := w') ?_ (hK _ _ _ _ _ g2 g3 g4 g5)
      unfold execOp; rw [ho]; exact value_run' g1
  | entry x =>
    rw [ho] at hc
    simp only [compE, Option.map_eq_some_iff] at hc
    obtain ⟨x', hx, rfl⟩ := hc
    simp only [evE, orBad] at h
    split at h
    · rename_i v0 S' heq
      obtain ⟨u, g1, rfl, g4⟩ := evEntry_ok hR heq (opd_ok hs hx)
      refine wp_value hd (w' := w) ?_ (hK _ _ _ _ _ hR (Ext.refl _ _ _) g4 h)
      unfold execOp; rw [ho]; exact value_run' g1
    · exact h.elim
  | panic x =>
    rw [ho] at hc
    simp only [compE, Option.map_eq_some_iff] at hc
    obtain ⟨x', hx, rfl⟩ := hc
    simp only [evE, evPanic] at h
    split at h
    · rename_i t agg cs hone
      have hv := (opd_ok hs hx).one hone
      obtain ⟨u, e, hu⟩ := id hv
      refine ⟨fenced_call, ?_⟩
      rw [Oper.semAt_eq _ _ _ hd]
      have hrun : (execOp a.eval o).run P w = .halt (.panic (.iface t u)) w := by
        unfold execOp; rw [ho]
        simp only [e]
        rfl
      rw [hrun]
      exact hP ⟨t, agg, cs⟩ _ _ _ _ hR (Ext.refl _ _ _) (e ▸ hv) h
    · exact h.elim
  | call c =>
    rw [ho] at hc
    simp only [compE] at hc
    cases hcal : c.callee with
    | value x =>
      rw [hcal] at hc
      cases x with
      | func f =>
        simp only at hc
        split at hc
        · split at hc
          · split at hc
            · cases hc
            · rw [Option.map_eq_some_iff] at hc
              obtain ⟨ys, hys, rfl⟩ := hc
              simp only [evE, evCallf] at h
              split at h
              · rename_i vs hvs
                have hvs := vls_ok hs _ _ _ hys hvs
                obtain ⟨g1, _⟩ := hcall F ρ S w (.f f) vs (c.args.map a.eval) K PN hR hfn (by rw [Array.toList_map]; exact hvs) h
                refine wp_call (tg := .f f) (vs := c.args.map a.eval) hd (fun hen => ?_) g1 hK hP
                have hres : (resolve a.eval c o.type).run P w = .ok { target := .fn (.func f) #[], args := c.args.map a.eval } w := by
                  simp [resolve, hcal, Deferred.ofValue, Act.eval]
                unfold execOp; rw [ho]
                simp only [Sem.run_bind, hres, Result.andThen_ok, invoke, Array.append_empty]
                exact hen _ w
              · exact h.elim
          · cases hc
        · cases hc
      | tmp t =>
        simp only at hc
        rw [Option.map_eq_some_iff] at hc
        obtain ⟨ys, hys, rfl⟩ := hc
        simp only [evE, evCallv] at h
        split at h
        · rename_i cl vs hone hvs
          split at h
          · rename_i tg pre post ht
            have hvs := vls_ok hs _ _ _ hys hvs
            have hcl : CR F ρ S w P cl (a.eval (.tmp t)) := (hs t).one hone
            have hva : All2 (VlR F ρ S w P) vs (c.args.map a.eval).toList := by rw [Array.toList_map]; exact hvs
            have hresd : ∀ d, (Deferred.ofValue (a.eval (.tmp t)) (c.args.map a.eval)).run P w = .ok d w → (resolve a.eval c o.type).run P w = .ok d w := by
              intro d hd'
              simp only [resolve, hcal]
              exact hd'
            cases tg with
            | f g =>
              obtain ⟨us, k1, d, k2, _, k3⟩ := run_target hcl ht hva (fun id e => nomatch e)
              obtain ⟨g1, _⟩ := hcall F ρ S w (.f g) _ us K PN hR hfn k1 h
              refine wp_call (tg := .f g) (vs := us) hd (fun hen => ?_) g1 hK hP
              unfold execOp; rw [ho]
              simp only [Sem.run_bind, hresd d (k2 w), Result.andThen_ok]
              exact k3 hen w
            | yld id =>
              have hpp : pre = [] ∧ post = [] := by
                unfold target at ht
                split at ht <;> cases ht
                exact ⟨rfl, rfl⟩
              obtain ⟨rfl, rfl⟩ := hpp
              have hob := (hcall F ρ S w (.yld id) _ (c.args.map a.eval) K PN hR hfn (by simpa using hva) h).2
              obtain ⟨us, k1, d, k2, _, k3⟩ := run_target hcl ht hva hob
              obtain ⟨g1, _⟩ := hcall F ρ S w (.yld id) _ us K PN hR hfn k1 h
              refine wp_call (tg := .yld id) (vs := us) hd ?_ g1 hK hP
              show (execOp a.eval o).run P w = _
              unfold execOp; rw [ho]
              simp only [Sem.run_bind, hresd d (k2 w), Result.andThen_ok]
              exact k3 w
          · exact h.elim
        · exact h.elim
      | _ => simp at hc
    | builtin b =>
      rw [hcal] at hc
      simp only at hc
      obtain ⟨v, u, S', ρ', w', g1, g2, g3, g4, g5⟩ := evB_ok hR hfn hs hc h o.type (c.args.map fun | .const _ => true | _ => false)
      refine wp_value hd (w' := w') ?_ (hK _ _ _ _ _ g2 g3 g4 g5)
      have hres : (resolve a.eval c o.type).run P w = .ok { target := .builtin b c.argTypes o.type (c.args.map fun | .const _ => true | _ => false), args := c.args.map a.eval } w := by
        simp only [resolve, hcal]; rfl
      unfold execOp; rw [ho]
      simp only [Sem.run_bind, hres, Result.andThen_ok]
      exact g1
    | invoke r n => rw [hcal] at hc; simp at hc
  | _ => rw [ho] at hc; simp [compE] at hc

end
end Go.Rf
