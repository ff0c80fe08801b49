/- A region in its written order does what the machine says. -/
import Derived.Test.YtcdebohjjkffkaaGreatRfK
namespace Go.Rf
set_option linter.unusedVariables false
set_option linter.unusedSimpArgs false
open Go

section
variable (F : Fo) (ρ : Pl) (S : St) (w : World) (P : Program)

/-- A deferred call, or a mark. -/
def DefR : ADef → Deferred → Prop
  | .call g args, d => ∃ fv cap vs, d.target = .fn fv cap ∧ (Enters P g → ∀ w1, (invoke d.target d.args).run P w1 = .ok (.enter g vs) w1) ∧ All2 (VlR F ρ S w P) args vs.toList
  | .mark id, d => (ρ id).isSome = true ∧ ∃ r, d.target = .collected r ∧ (∀ o, S.get id = some o → o.tag = 4 → r = (ρ.at id).1)

/-- The round that one is in. -/
def RndR (ρ : Pl) (S : St) : Option Nat → Option Nat → Prop
  | none, none => True
  | some id, some l => (ρ id).isSome = true ∧ ∀ o, S.get id = some o → o.tag = 3 → l = (ρ.at id).1
  | _, _ => False

structure FrR (N : Nat) (G : Option Nat) (fr : Fr) (a : Act) : Prop where
  sl : SlR F ρ S w P fr.slots a.tmps
  n : N ≤ a.tmps.size
  d : All2 (DefR F ρ S w P) fr.defers a.defers
  r : RndR ρ S fr.rnd G

def ExR : AExit → Exit → Prop
  | .normal, .normal => True
  | .exit id, .exit id' => id = id'
  | .ret, .ret => True
  | .panic p, .panic chain => ∃ v, chain = [{ v, recovered := false }] ∧ PanR F ρ S w P p v
  | _, _ => False

/-- What is asked behind a piece of code follows from what the machine asks. -/
def PostOk (N : Nat) (G : Option Nat) (K : AExit → Fr → St → Prop) (Q : Exit → Act → World → Prop) : Prop :=
  ∀ e fr' S' ρ' w' a' e', R F ρ' S' w' P → Ext ρ S w ρ' S' w' → FrR F ρ' S' w' P N G fr' a' → ExR F ρ' S' w' P e e' → K e fr' S' → Q e' a' w'

end

section
variable {F : Fo} {ρ ρ' : Pl} {S S' : St} {w w' : World} {P : Program} {N : Nat} {G : Option Nat}

theorem DefR.ext (h : Ext ρ S w ρ' S' w') {x : ADef} {d : Deferred} (hd : DefR F ρ S w P x d) : DefR F ρ' S' w' P x d := by
  cases x with
  | call g args =>
    obtain ⟨fv, cap, vs, h1, h2, h3⟩ := hd
    exact ⟨fv, cap, vs, h1, h2, h3.mono fun _ _ hh => hh.ext h⟩
  | mark id =>
    obtain ⟨hb, r, h1, h2⟩ := hd
    refine ⟨h.born _ hb, r, h1, fun o' ho' ht => ?_⟩
    obtain ⟨o, ho, ht', e⟩ := h.tagged hb ho' (by omega)
    rw [e]; exact h2 o ho (by omega)

theorem RndR.ext (h : Ext ρ S w ρ' S' w') {r : Option Nat} (hr : RndR ρ S r G) : RndR ρ' S' r G := by
  cases r with
  | none => cases G with
    | none => trivial
    | some _ => exact hr.elim
  | some id => cases G with
    | none => exact hr.elim
    | some l =>
      obtain ⟨hb, h2⟩ := hr
      refine ⟨h.born _ hb, fun o' ho' ht => ?_⟩
      obtain ⟨o, ho, ht', e⟩ := h.tagged hb ho' (by omega)
      rw [e]; exact h2 o ho (by omega)

theorem FrR.ext (h : Ext ρ S w ρ' S' w') {fr : Fr} {a : Act} (hf : FrR F ρ S w P N G fr a) : FrR F ρ' S' w' P N G fr a :=
  ⟨hf.sl.ext h, hf.n, hf.d.mono fun _ _ hh => hh.ext h, hf.r.ext h⟩

theorem PostOk.ext (h : Ext ρ S w ρ' S' w') {K : AExit → Fr → St → Prop} {Q : Exit → Act → World → Prop} (hq : PostOk F ρ S w P N G K Q) : PostOk F ρ' S' w' P N G K Q :=
  fun e fr' S'' ρ'' w'' a' e' h1 h2 h3 h4 h5 => hq e fr' S'' ρ'' w'' a' e' h1 (h.trans h2) h3 h4 h5

theorem floor_ext (h : Ext ρ S w ρ' S' w') (hf : S.floor ≤ S.next) : S'.floor ≤ S'.next := by rw [h.flr]; exact Nat.le_trans hf h.next

theorem SlR.set {slots : PM AVal} {tmps : Array Value} (hs : SlR F ρ S w P slots tmps) {d : Nat} {v : AVal} {u : Value} (hd : d < tmps.size) (hv : AR F ρ S w P v u) :
    SlR F ρ S w P (slots.set d v) (tmps.setIfInBounds d u) := by
  intro t
  rw [PM.get_set]
  by_cases e : t = d
  · subst e
    rw [if_pos rfl]
    simp only [Option.getD_some]
    have : (tmps.setIfInBounds t u).getD t undef = u := by simp [Array.getD, hd]
    rw [this]; exact hv
  · rw [if_neg e]
    have : (tmps.setIfInBounds d u).getD t undef = tmps.getD t undef := by
      simp only [Array.getD_eq_getD_getElem?]
      rw [Array.getElem?_setIfInBounds_ne (Ne.symm e)]
    rw [this]; exact hs t

theorem FrR.set {fr : Fr} {a : Act} (hf : FrR F ρ S w P N G fr a) {dst : Option Nat} {v : AVal} {u : Value} (hd : ∀ d, dst = some d → d < N) (hv : AR F ρ S w P v u) :
    FrR F ρ S w P N G (fr.setD dst v) (a.put dst u) := by
  cases dst with
  | none => exact hf
  | some d =>
    have hdN := hd d rfl
    have hn := hf.n
    exact ⟨hf.sl.set (by omega) hv, by simp only [Act.put, Array.size_setIfInBounds]; exact hn, hf.d, hf.r⟩

theorem dstOk_lt {o : Oper} (h : dstOk N o = true) : ∀ d, o.dst = some d → d < N := by
  intro d hd
  unfold dstOk at h
  rw [hd] at h
  exact blt_iff.1 h

theorem compOper_inv {ops : Array Oper} {anc : Array Nat} {i : Nat} {o : Oper} {x : AOper} (h : compOper P N ops anc i o = some x) :
    dstOk N o = true ∧ compOp P o = some x.op ∧ x.dst = o.dst ∧ x.anc = anc.getD i 0 ∧
    (match o.guard with
      | none => x.guard = none
      | some (j, b) => ∃ t, (ops[j]?).bind (·.dst) = some t ∧ x.guard = some (t, b)) := by
  unfold compOper at h
  split at h
  · rename_i x' g hd hc hg
    cases h
    refine ⟨hd, hc, rfl, rfl, ?_⟩
    cases ho : o.guard with
    | none => rw [ho] at hg; cases hg; rfl
    | some jb =>
      obtain ⟨j, b⟩ := jb
      rw [ho] at hg
      simp only [compGuard] at hg ⊢
      split at hg
      · rename_i t ht; cases hg; exact ⟨t, ht, rfl⟩
      · cases hg
  · cases h

theorem wanted_ok {slots : PM AVal} {tmps : Array Value} (hs : SlR F ρ S w P slots tmps) {ops : Array Oper} {o : Oper} {g : Option (Nat × Bool)} {b : Bool}
    (hg : match o.guard with
      | none => g = none
      | some (j, b) => ∃ t, (ops[j]?).bind (·.dst) = some t ∧ g = some (t, b))
    (h : wanted slots g = some b) : Region.wanted o (yielded ops tmps) = b := by
  unfold Region.wanted
  cases ho : o.guard with
  | none =>
    rw [ho] at hg
    simp only at hg
    subst hg
    cases h; rfl
  | some jb =>
    obtain ⟨j, want⟩ := jb
    rw [ho] at hg
    obtain ⟨t, ht, rfl⟩ := hg
    simp only [wanted] at h
    have hst := hs t
    show (yielded ops tmps j == some want) = b
    unfold yielded
    rw [ht]
    simp only [Option.bind_some]
    split at h
    · rename_i hz
      cases h
      rw [hz] at hst
      obtain ⟨arr, he, ha⟩ := hst
      rw [Array.getD_eq_getD_getElem?] at he
      cases hx : tmps[t]? with
      | none => rfl
      | some x => rw [hx] at he; simp only [Option.getD_some] at he; subst he; rfl
    · split at h
      · rename_i b' hb
        cases h
        have := hst.bool hb
        rw [Array.getD_eq_getD_getElem?] at this
        cases hx : tmps[t]? with
        | none => rw [hx] at this; cases this
        | some x =>
          rw [hx] at this; simp only [Option.getD_some] at this; subst this
          cases b' <;> cases want <;> rfl
      · cases h

/-- What an operation is. -/
theorem compOp_inv {o : Oper} {x : AOp} (h : compOp P o = some x) :
    (∃ q, x = .q q ∧ compQ P o.op = some q) ∨ (∃ m, x = .m m ∧ compM P o.op = some m) ∨ (∃ e, x = .e e ∧ (compE P o.op = some e ∨ e = .stop)) ∨ (x = .recov ∧ ∃ c, o.op = .call c ∧ c.callee = .builtin .recover) ∨
    (∃ c t l, x = .defer (.t t) l ∧ o.op = .defer c ∧ c.callee = .value (.tmp t) ∧ mapO opd c.args.toList = some l) := by
  unfold compOp at h
  split at h
  · rename_i q hq; cases h; exact .inl ⟨q, rfl, hq⟩
  · split at h
    · rename_i m hm; cases h; exact .inr (.inl ⟨m, rfl, hm⟩)
    · split at h
      · rename_i e he; cases h; exact .inr (.inr (.inl ⟨e, rfl, .inl he⟩))
      · split at h
        · rename_i c ho
          split at h
          · rename_i hc; cases h; exact .inr (.inr (.inr (.inl ⟨rfl, c, ho, hc⟩)))
          · cases h; exact .inr (.inr (.inl ⟨_, rfl, .inr rfl⟩))
        · rename_i c ho
          split at h
          · rename_i t hc
            split at h
            · rename_i l hl; cases h; exact .inr (.inr (.inr (.inr ⟨c, t, l, rfl, ho, hc, hl⟩)))
            · cases h; exact .inr (.inr (.inl ⟨_, rfl, .inr rfl⟩))
          · cases h; exact .inr (.inr (.inl ⟨_, rfl, .inr rfl⟩))
        · cases h; exact .inr (.inr (.inl ⟨_, rfl, .inr rfl⟩))

theorem compQ_defer {o : Op} {q : QOp} (h : compQ P o = some q) : ∀ c, o ≠ .defer c := by intro c e; rw [e] at h; simp [compQ] at h
theorem compM_defer {o : Op} {q : MOp} (h : compM P o = some q) : ∀ c, o ≠ .defer c := by intro c e; rw [e] at h; simp [compM] at h

theorem evDefer_ok (hR : R F ρ S w P) {fr fr' : Fr} {a : Act} (hf : FrR F ρ S w P N G fr a) {o : Oper} {c : Call} {t : Nat} {l : List AOpd} (ho : o.op = .defer c) (hc : c.callee = .value (.tmp t))
    (hl : mapO opd c.args.toList = some l) (h : evDefer (rdS fr.slots) (.t t) l fr = some fr') :
    ∃ d, (o.semAt (fence G).round a.eval).run P w = .ok (.defer d) w ∧ fr'.slots = fr.slots ∧ fr'.rnd = fr.rnd ∧ FrR F ρ S w P N G fr' { a with defers := d :: a.defers } := by
  unfold evDefer at h
  split at h
  · rename_i c0 vs hrnd hone hvs
    split at h
    · rename_i g pre post ht
      cases h
      have hG : G = none := by
        have := hf.r
        rw [hrnd] at this
        cases G with
        | none => rfl
        | some _ => exact this.elim
      subst hG
      have hvs := vls_ok hf.sl _ _ _ hl hvs
      have hva : All2 (VlR F ρ S w P) vs (c.args.map a.eval).toList := by rw [Array.toList_map]; exact hvs
      have hcl : CR F ρ S w P c0 (a.eval (.tmp t)) := (hf.sl t).one hone
      obtain ⟨us, k1, d, k2, ⟨fv, cap, k4⟩, k3⟩ := run_target hcl ht hva (fun id e => nomatch e)
      refine ⟨d, ?_, rfl, rfl, hf.sl, hf.n, ⟨⟨fv, cap, us, k4, k3, k1⟩, hf.d⟩, hf.r⟩
      have hres : (resolve a.eval c o.type).run P w = .ok d w := by
        simp only [resolve, hc]
        exact k2 w
      show (o.semAt none a.eval).run P w = _
      rw [Oper.semAt_none]
      unfold execOp
      rw [ho]
      simp only [Sem.run_bind, hres, Result.andThen_ok]
      rfl
    · cases h
  · cases h

/-- Operations in their written order. -/
theorem evOps_ok {call : CallT Prop} (hcall : CallSound P call) {ops : Array Oper} {anc : Array Nat} {K : AExit → Fr → St → Prop} {Q : Exit → Act → World → Prop} :
    ∀ (rest : List Oper) (i : Nat) (l : List AOper), compOpers P N ops anc i rest = some l → rest = ops.toList.drop i →
    ∀ (fr : Fr) (S : St) (ρ : Pl) (w : World) (a : Act), R F ρ S w P → S.floor ≤ S.next → FrR F ρ S w P N G fr a → evOps badP allP call l fr S K → PostOk F ρ S w P N G K Q →
    wpOpsIn (fence G) 0 P ops Q (List.range' i rest.length) a w
  | [], i, l, hl, _, fr, S, ρ, w, a, hR, _, hf, h, hQ => by
    simp only [compOpers, Option.some.injEq] at hl; subst hl
    exact hQ .normal fr S ρ w a .normal hR (Ext.refl _ _ _) hf trivial h
  | o :: rest, i, l, hl, hrest, fr, S, ρ, w, a, hR, hfn, hf, h, hQ => by
    simp only [compOpers, Option.bind_eq_bind, Option.bind_eq_some_iff, Option.some.injEq] at hl
    obtain ⟨x, hx, l', hl', rfl⟩ := hl
    have hoi : ops[i]? = some o := by
      rw [← Array.getElem?_toList]
      have := congrArg List.head? hrest
      rw [List.head?_drop] at this
      simpa using this.symm
    have hrest' : rest = ops.toList.drop (i + 1) := by
      have := congrArg List.tail hrest
      simpa using this
    obtain ⟨c1, c2, c3, c4, c5⟩ := compOper_inv hx
    have hdl := dstOk_lt c1
    have ih := evOps_ok hcall (K := K) (Q := Q) rest (i + 1) l' hl' hrest'
    have hnext : ∀ {S' ρ' w'} {fr' : Fr} {a' : Act} {v u}, R F ρ' S' w' P → Ext ρ S w ρ' S' w' → FrR F ρ' S' w' P N G fr' a' → AR F ρ' S' w' P v u → evOps badP allP call l' (fr'.setD x.dst v) S' K →
        wpOpsIn (fence G) 0 P ops Q (List.range' (i + 1) rest.length) (a'.put o.dst u) w' := by
      intro S' ρ' w' fr' a' v u h1 h2 h3 h4 h5
      rw [c3] at h5
      exact ih _ _ _ _ _ h1 (floor_ext h2 hfn) (h3.set hdl h4) h5 (hQ.ext h2)
    rw [List.length_cons, List.range'_succ]
    simp only [wpOpsIn, hoi]
    simp only [evOps] at h
    split at h
    · exact h.elim
    · rename_i hw
      rw [wanted_ok hf.sl c5 hw]
      simp only [Bool.false_eq_true, if_false]
      exact ⟨fun _ _ => trivial, hnext hR (Ext.refl _ _ _) hf undef_ok h⟩
    · rename_i hw
      rw [wanted_ok hf.sl c5 hw]
      simp only [if_true]
      rcases compOp_inv c2 with ⟨q, e, hq⟩ | ⟨m, e, hm⟩ | ⟨ee, e, he⟩ | ⟨e, _⟩ | ⟨c, t, as, e, hod, hcc, hla⟩
      · rw [e] at h
        simp only at h
        split at h
        · rename_i v hv
          obtain ⟨u, g1, g2⟩ := evQ_ok hR hf.sl hq hv
          exact wp_value (compQ_defer hq) g1 (hnext hR (Ext.refl _ _ _) hf g2 h)
        · exact h.elim
      · rw [e] at h
        simp only at h
        split at h
        · rename_i ob f hv
          obtain ⟨u, w', g1, g2⟩ := evM_ok hR hf.sl hm hv (fresh_none hR) (Nat.le_succ _) (Nat.lt_succ_self _) hfn
          exact wp_value (compM_defer hm) g1 (hnext g2.r g2.ext (hf.ext g2.ext) g2.val h)
        · exact h.elim
      · rw [e] at h
        simp only at h
        rcases he with he | rfl
        · refine evE_ok hcall hR hfn hf.sl he h ?_ ?_
          · intro v u S' ρ' w' h1 h2 h3 h4
            exact hnext h1 h2 (hf.ext h2) h3 h4
          · intro p v S' ρ' w' h1 h2 h3 h4
            exact hQ (.panic p) fr S' ρ' w' a (.panic [{ v, recovered := false }]) h1 h2 (hf.ext h2) ⟨v, rfl, h3⟩ h4
        · exact h.elim
      · rw [e] at h; exact h.elim
      · rw [e] at h
        simp only at h
        split at h
        · rename_i fr' hv
          obtain ⟨d, g1, g2, g3, g4⟩ := evDefer_ok hR hf hod hcc hla hv
          refine ⟨fenced_call, ?_⟩
          rw [g1]
          exact hnext hR (Ext.refl _ _ _) g4 undef_ok h
        · exact h.elim

theorem evRegion_ok {call : CallT Prop} (hcall : CallSound P call) {id : Nat} {ops : Array Oper} {l : List AOper} {K : AExit → Fr → St → Prop} {Q : Exit → Act → World → Prop} {fr : Fr} {a : Act}
    (hl : compOpers P N ops #[] 0 ops.toList = some l) (hR : R F ρ S w P) (hfn : S.floor ≤ S.next) (hf : FrR F ρ S w P N G fr a) (h : evOps badP allP call l fr S K) (hQ : PostOk F ρ S w P N G K Q) :
    (Code.region id ops false).wpIn (fence G) 0 P Q a w := by
  refine wpIn_region ?_
  have := evOps_ok hcall ops.toList 0 l hl (by simp) fr S ρ w a hR hfn hf h hQ
  rwa [Array.length_toList, ← List.range_eq_range'] at this

end
end Go.Rf
