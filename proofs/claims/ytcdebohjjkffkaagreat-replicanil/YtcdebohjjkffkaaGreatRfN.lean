/- Code does what the machine says: all but regions whose order is open. -/
import Derived.Test.YtcdebohjjkffkaaGreatRfL
namespace Go.Rf
set_option linter.unusedVariables false
set_option linter.unusedSimpArgs false
open Go

/-! ## Two rules -/

theorem wpIn_loop_fuel {F : Fence} {n : Nat} {P : Program} {c : Code} {Q : Exit → Act → World → Prop} {a : Act} {w : World} (H : Nat → Act → World → Prop) (j : Nat) (h₀ : H j a w)
    (round : ∀ j a w, H j a w → c.wpIn F n P (Exit.then (fun a' w' => ∃ m, m < j ∧ H m a' w') Q) a w) : (Code.loop c).wpIn F n P Q a w := by
  intro b k cs hro hb hr
  have key : ∀ j a w, H j a w →
      ∃ e a' w', Q e a' w' ∧ ArrivesIn (Machine.fenced P F) P (lone (b.atR a (.code c :: .inLoop c :: k)) cs w) b k cs e a' w' := by
    intro j
    induction j using Nat.strongRecOn with
    | _ j ih =>
      intro a w hI
      obtain ⟨e, a₁, w₁, hq, harr⟩ := round j a w hI b (.inLoop c :: k) cs hro hb hr
      cases e with
      | normal =>
        obtain ⟨m, hlt, hI₁⟩ := hq
        obtain ⟨e₂, a₂, w₂, hq₂, harr₂⟩ := ih m hlt a₁ w₁ hI₁
        exact ⟨e₂, a₂, w₂, hq₂, .of_steps (StepsIn.trans harr (.one (fenced_calm hb hr rfl) stepR_inLoop)) harr₂⟩
      | exit id => exact ⟨_, a₁, w₁, hq, .pass (x := .inLoop c) rfl (fun _ _ => .inl (by simp)) harr⟩
      | goto l => exact ⟨_, a₁, w₁, hq, .pass (x := .inLoop c) rfl (fun _ _ => .inl (by simp)) harr⟩
      | ret => exact ⟨_, a₁, w₁, hq, .pass (x := .inLoop c) rfl (fun _ _ => .inl (by simp)) harr⟩
      | panic ch => exact ⟨_, a₁, w₁, hq, .pass (x := .inLoop c) rfl (fun _ _ => .inl (by simp)) harr⟩
      | outgrown => exact ⟨_, a₁, w₁, hq, .pass (x := .inLoop c) rfl (fun _ _ => .inl (by simp)) harr⟩
  obtain ⟨e, a', w', hq, harr⟩ := key _ a w h₀
  exact ⟨e, a', w', hq, .of_steps (.one (fenced_calm hb hr rfl) stepR_loop) harr⟩

theorem stepR_scope {P : Program} {b : Frame} {a : Act} {k : List Item} {cs : List Frame} {w : World} {c : Code} :
    step P (lone (b.atR a (.code (.scope c) :: k)) cs w) = .next (lone (b.atR a (.code c :: .inScope c :: k)) cs w) :=
  step_lone_go (by simp [stepG, stepG.exec, Frame.atR])

theorem stepR_inScope {P : Program} {b : Frame} {a : Act} {k : List Item} {cs : List Frame} {w : World} {c : Code} :
    step P (lone (b.atR a (.inScope c :: k)) cs w) = .next (lone (b.atR a k) cs w) :=
  step_lone_go (by simp [stepG, stepG.exec, Frame.atR])

theorem exitTo_scope {c : Code} {id : Nat} {k : List Item} : exitTo id (.inScope c :: k) = exitTo id k := rfl

theorem wpIn_scope {F : Fence} {n : Nat} {P : Program} {c : Code} {Q : Exit → Act → World → Prop} {a : Act} {w : World}
    (h : c.wpIn F n P (fun e a w => (∀ l, e ≠ .goto l) ∧ Q e a w) a w) : (Code.scope c).wpIn F n P Q a w := by
  intro b k cs hro hb hr
  have h0 : (lone (b.atR a (.code (.scope c) :: k)) cs w).fenced P F := fenced_calm hb hr rfl
  obtain ⟨e, a₁, w₁, ⟨hng, hq⟩, harr⟩ := h b (.inScope c :: k) cs hro hb hr
  cases e with
  | normal => exact ⟨.normal, a₁, w₁, hq, StepsIn.head h0 stepR_scope (StepsIn.trans harr (.one (fenced_calm hb hr rfl) stepR_inScope))⟩
  | exit id =>
    refine ⟨.exit id, a₁, w₁, hq, fun k' hk => .head h0 stepR_scope (harr.1 k' (by rw [exitTo_scope]; exact hk)), fun hr' hk => ?_⟩
    obtain ⟨k₁, h1, h2⟩ := harr.2 hr' (by rw [exitTo_scope]; exact hk)
    exact ⟨k₁, h1, .head h0 stepR_scope h2⟩
  | goto l => exact absurd rfl (hng l)
  | ret => exact ⟨_, a₁, w₁, hq, .of_steps (.one h0 stepR_scope) harr⟩
  | panic ch => exact ⟨_, a₁, w₁, hq, .of_steps (.one h0 stepR_scope) harr⟩
  | outgrown => exact ⟨_, a₁, w₁, hq, .of_steps (.one h0 stepR_scope) harr⟩

/-- Regions whose order is open do what the machine says. -/
def DrawSound (P : Program) (call : CallT Prop) : Prop :=
  ∀ (F : Fo) (ρ : Pl) (S : St) (w : World) (N : Nat) (G : Option Nat) (id : Nat) (ops : Array Oper) (L : List DOp) (K : AExit → Fr → St → Prop) (Q : Exit → Act → World → Prop) (fr : Fr) (a : Act),
    compDraw P N ops = some L → R F ρ S w P → S.floor ≤ S.next → FrR F ρ S w P N G fr a →
    evDraw badP allP call S.next L L ⟨fr, { S with next := S.next + L.length }, [], []⟩ K → PostOk F ρ S w P N G K Q → (Code.region id ops true).wpIn (fence G) 0 P Q a w

section
variable {F : Fo} {ρ ρ' : Pl} {S S' : St} {w w' : World} {P : Program} {N : Nat} {G : Option Nat}

/-! ## Records of loops -/

theorem lpSet_inv {id : Nat} {st : LoopState} {pd : Option (Option (Option Nat))} (h : lpSet S id st pd = some S') :
    ∃ st0 sl ps as bo p, S.get id = some (.lp st0 sl ps as bo p) ∧ S.floor ≤ id ∧ S' = S.put id (.lp st sl ps as bo (pd.getD p)) := by
  unfold lpSet at h
  split at h
  · rename_i st0 sl ps as bo p hg
    split at h
    · rename_i hb
      cases h
      exact ⟨st0, sl, ps, as, bo, p, hg, ble_iff.1 hb, rfl⟩
    · cases h
  · cases h

theorem lp_turn (hR : R F ρ S w P) {id : Nat} {st0 st : LoopState} {sl : PM AVal} {ps : List Nat} {as bo : ACode} {p p' : Option (Option Nat)} {q : Option Code} {L : Loop}
    (hid : S.get id = some (.lp st0 sl ps as bo p)) (hfl : S.floor ≤ id) (hL : w.heap[(ρ.at id).1]? = some (.loop L)) (hq : PendR p' q) :
    R F ρ (S.put id (.lp st sl ps as bo p')) (World.put w (ρ.at id).1 (.loop { L with state := st, pending := q })) P ∧
    Ext ρ S w ρ (S.put id (.lp st sl ps as bo p')) (World.put w (ρ.at id).1 (.loop { L with state := st, pending := q })) := by
  refine obj_turn (ob' := .lp st sl ps as bo p') hR hid rfl rfl trivial (Nat.le_refl _) hfl hL (by simp) fun hE hb => ?_
  obtain ⟨fn, f, tmps, ps', ca, cb, pd, dfs, h1, h2, h3, h4, h5, h6, h7, h8⟩ := (hR.ob _ _ hid).2
  rw [hL] at h1
  cases h1
  exact ⟨fn, f, tmps, ps', ca, cb, q, dfs, hb, h2, h3, h4, h5, h6, h7.ext hE, hq⟩

theorem run_getLoop {l : Nat} {L : Loop} (h : w.heap[l]? = some (.loop L)) : (Instr.getLoop l).run P w = .ok L w := by
  simp [Instr.getLoop, run_getObj h]

theorem lp_ob (hR : R F ρ S w P) {id : Nat} {st : LoopState} {sl : PM AVal} {ps : List Nat} {as bo : ACode} {p : Option (Option Nat)} (hid : S.get id = some (.lp st sl ps as bo p)) :
    ∃ L : Loop, w.heap[(ρ.at id).1]? = some (.loop L) ∧ L.state = st ∧ PendR p L.pending ∧ L.params.toList = ps ∧
      ∃ f : Func, compCode P f.ntmps L.assign = some as ∧ compCode P f.ntmps L.body = some bo ∧ f.ntmps ≤ L.tmps.size ∧ (∀ x ∈ ps, x < f.ntmps) ∧ SlR F ρ S w P sl L.tmps := by
  obtain ⟨fn, f, tmps, ps', ca, cb, pd, dfs, h1, h2, h3, h4, h5, h6, h7, h8⟩ := (hR.ob _ _ hid).2
  exact ⟨_, h1, rfl, h8, h2, f, h3, h4, h5, h6, h7⟩

/-- The loop is entered. -/
theorem enter_ok (hR : R F ρ S w P) (hfn : S.floor ≤ S.next) {fr fr' : Fr} {a : Act} (hf : FrR F ρ S w P N G fr a) {S0 : St} (h : rfIn fr S = some (fr', S0)) (fn : FuncId) {ps : Array Tmp} {ca cb : Code} {as bo : ACode}
    (hps : ps.all (Nat.blt · N) = true) (hca : compCode P N ca = some as) (hcb : compCode P N cb = some bo) :
    ∃ l mark w1 ρ1, (Instr.enterLoop fn a.tmps ps ca cb G).run P w = .ok (l, mark) w1 ∧ R F ρ1 (S0.alloc (.lp .ready fr.slots ps.toList as bo none)) w1 P ∧
      Ext ρ S w ρ1 (S0.alloc (.lp .ready fr.slots ps.toList as bo none)) w1 ∧ FrR F ρ1 (S0.alloc (.lp .ready fr.slots ps.toList as bo none)) w1 P N G fr' { a with defers := mark ++ a.defers } ∧
      fr'.slots = fr.slots ∧ (ρ1 S0.next).isSome = true ∧ l = (ρ1.at S0.next).1 := by
  have key : ∀ {ρ0 : Pl} {w0 : World} {dfs : Nat}, R F ρ0 S0 w0 P → S0.floor ≤ S0.next → FrR F ρ0 S0 w0 P N G fr a →
      ∃ ρ1, R F ρ1 (S0.alloc (.lp .ready fr.slots ps.toList as bo none)) (w0.alloc (.loop { state := .ready, pending := none, fn, tmps := a.tmps, params := ps, assign := ca, body := cb, defers := dfs })) P ∧
        Ext ρ0 S0 w0 ρ1 (S0.alloc (.lp .ready fr.slots ps.toList as bo none)) (w0.alloc (.loop { state := .ready, pending := none, fn, tmps := a.tmps, params := ps, assign := ca, body := cb, defers := dfs })) ∧
        (ρ1 S0.next).isSome = true ∧ w0.heap.size = (ρ1.at S0.next).1 := by
    intro ρ0 w0 dfs hR0 hfn0 hf0
    obtain ⟨h1, h2⟩ := made_step (w1 := w0) (n := S0.next) (nx := S0.next + 1) (ob := .lp .ready fr.slots ps.toList as bo none) (o := .loop { state := .ready, pending := none, fn, tmps := a.tmps, params := ps, assign := ca, body := cb, defers := dfs })
      hR0 .rfl' (fresh_none hR0) (Nat.le_succ _) (Nat.lt_succ_self _) hfn0 (fun hE => by
        refine ⟨fn, { (default : Func) with ntmps := N }, a.tmps, ps, ca, cb, none, dfs, ?_, rfl, hca, hcb, hf0.n, ?_, hf0.sl.ext hE, trivial⟩
        · rw [Pl.at_new_self]; exact alloc_get_new w0 _
        · intro x hx
          rw [Array.all_eq_true_iff_forall_mem] at hps
          exact blt_iff.1 (hps x (by simpa using hx)))
    exact ⟨_, h1, h2, by simp [Pl.new_self], by rw [Pl.at_new_self]⟩
  unfold rfIn at h
  split at h
  · rename_i hrnd
    cases h
    have hG : G = none := by
      have := hf.r
      rw [hrnd] at this
      cases G with
      | none => rfl
      | some _ => exact this.elim
    subst hG
    obtain ⟨h1, h2⟩ := made_step (w1 := w) (n := S.next) (nx := S.next + 1) (ob := .dfb false) (o := .deferred (some [])) hR .rfl' (fresh_none hR) (Nat.le_succ _) (Nat.lt_succ_self _) hfn
      (fun hE => by show (w.alloc _).heap[_]? = _; rw [Pl.at_new_self]; exact alloc_get_new w _)
    obtain ⟨ρ1, k1, k2, k3, k4⟩ := key (ρ0 := ρ.new S.next (w.heap.size, 0)) (w0 := w.alloc (.deferred (some []))) (dfs := w.heap.size) h1 (floor_ext h2 hfn) (hf.ext h2)
    refine ⟨_, [{ target := .collected w.heap.size, args := #[] }], _, ρ1, ?_, k1, h2.trans k2, ?_, rfl, k3, k4⟩
    · rfl
    · have hE := h2.trans k2
      refine ⟨hf.sl.ext hE, hf.n, ⟨⟨k2.born _ (by simp [Pl.new_self]), w.heap.size, rfl, fun o' ho' ht => ?_⟩, hf.d.mono fun _ _ hh => hh.ext hE⟩, hf.r.ext hE⟩
      obtain ⟨_, _, _, e⟩ := k2.tagged (by simp [Pl.new_self]) ho' (by omega)
      rw [e, Pl.at_new_self]
  · rename_i rid hrnd
    split at h
    · rename_i st sl ps' as' bo' pd hg
      cases h
      cases G with
      | none => have := hf.r; rw [hrnd] at this; exact this.elim
      | some lr =>
        have hr := hf.r
        rw [hrnd] at hr
        obtain ⟨_, hr2⟩ := hr
        have hlr := hr2 _ hg rfl
        obtain ⟨L, hL, _⟩ := lp_ob hR hg
        obtain ⟨ρ1, k1, k2, k3, k4⟩ := key (dfs := L.defers) hR hfn hf
        refine ⟨_, [], _, ρ1, ?_, k1, k2, hf.ext k2, rfl, k3, k4⟩
        rw [hlr]
        simp [Instr.enterLoop, run_getLoop hL]
    · cases h

/-- Behind the loop. -/
theorem rfEnd_ok {id l : Nat} {fr : Fr} {a : Act} {K : AExit → Fr → St → Prop} {Q : Exit → Act → World → Prop} (hR : R F ρ S w P) (hf : FrR F ρ S w P N G fr a) (h : rfEnd badP id fr S K) (hQ : PostOk F ρ S w P N G K Q)
    (hl : l = (ρ.at id).1) : ∃ jump w4, (Instr.endLoop l).run P w = .ok jump w4 ∧
      (match jump with
       | none => Q .normal a w4
       | some c => c.wpIn (fence G) 0 P Q a w4) := by
  have key : ∀ {S' : St} {st sl ps as bo pd}, S.get id = some (.lp st sl ps as bo pd) → st ≠ .busy → lpSet S id .exhausted none = some S' → rfEnd.rfOut pd fr S' K →
      ∃ jump w4, (Instr.endLoop l).run P w = .ok jump w4 ∧ (match jump with
       | none => Q .normal a w4
       | some c => c.wpIn (fence G) 0 P Q a w4) := by
    intro S' st sl ps as bo pd hg hst hset hout
    obtain ⟨st0, sl', ps', as', bo', p, hg', hfl, rfl⟩ := lpSet_inv hset
    rw [hg] at hg'; cases hg'
    obtain ⟨L, hL, hLs, hLp, _⟩ := lp_ob hR hg
    obtain ⟨g1, g2⟩ := lp_turn (st := .exhausted) hR hg hfl hL hLp
    subst hl
    refine ⟨L.pending, World.put w (ρ.at id).1 (.loop { L with state := .exhausted }), ?_, ?_⟩
    · have hb : (L.state == .busy) = false := by rw [hLs]; cases st <;> first | rfl | exact absurd rfl hst
      simp only [Instr.endLoop, Sem.run_bind, run_getLoop hL, Result.andThen_ok, hb, Bool.false_eq_true, if_false, Sem.run_pure, run_setObj _ hL (by simp)]
    · have hf' := hf.ext g2
      cases pd with
      | none =>
        cases hp : L.pending with
        | none => rw [hp] at g1 g2 hf'; exact hQ .normal fr _ ρ _ a .normal g1 g2 hf' trivial hout
        | some c => rw [hp] at hLp; exact hLp.elim
      | some j =>
        cases hp : L.pending with
        | none => rw [hp] at hLp; cases j <;> exact hLp.elim
        | some c =>
          rw [hp] at hLp g1 g2 hf'
          cases j with
          | none =>
            cases c <;> first
              | exact hLp.elim
              | exact wpIn_ret (hQ .ret fr _ ρ _ a .ret g1 g2 hf' trivial hout)
          | some j =>
            cases c <;> first
              | exact hLp.elim
              | exact wpIn_exit (hQ (.exit j) fr _ ρ _ a (.exit _) g1 g2 hf' hLp hout)
  unfold rfEnd at h
  split at h
  · rename_i hg hset; exact key hg (by simp) hset h
  · rename_i hg hset; exact key hg (by simp) hset h
  · exact h.elim

theorem ExR.nogoto {e : AExit} {e' : Exit} (h : ExR F ρ S w P e e') : ∀ l, e' ≠ .goto l := by
  intro l he
  subst he
  cases e <;> exact h.elim

/-- Code does what the machine says. -/
theorem evCode_ok {call : CallT Prop} (hcall : CallSound P call) (hdraw : DrawSound P call) (LF : Nat) : ∀ (c : Code) (ac : ACode), compCode P N c = some ac →
    ∀ (F : Fo) (ρ : Pl) (S : St) (w : World) (fr : Fr) (a : Act) (K : AExit → Fr → St → Prop) (Q : Exit → Act → World → Prop),
      R F ρ S w P → S.floor ≤ S.next → FrR F ρ S w P N G fr a → evCode badP allP call LF ac fr S K → PostOk F ρ S w P N G K Q → c.wpIn (fence G) 0 P Q a w := by
  intro c
  induction c with
  | skip =>
    intro ac hc F ρ S w fr a K Q hR hfn hf h hQ
    cases hc
    exact wpIn_skip (hQ .normal fr S ρ w a .normal hR (Ext.refl _ _ _) hf trivial h)
  | region id ops d =>
    intro ac hc F ρ S w fr a K Q hR hfn hf h hQ
    cases d with
    | false =>
      simp only [compCode, Option.map_eq_some_iff] at hc
      obtain ⟨l, hl, rfl⟩ := hc
      exact evRegion_ok hcall hl hR hfn hf h hQ
    | true =>
      simp only [compCode, Option.map_eq_some_iff] at hc
      obtain ⟨L, hL, rfl⟩ := hc
      exact hdraw F ρ S w N G id ops L K Q fr a hL hR hfn hf h hQ
  | seq x y ihx ihy =>
    intro ac hc F ρ S w fr a K Q hR hfn hf h hQ
    simp only [compCode, Option.bind_eq_bind, Option.bind_eq_some_iff, Option.some.injEq] at hc
    obtain ⟨ax, hx, ay, hy, rfl⟩ := hc
    refine wpIn_seq (ihx ax hx F ρ S w fr a _ _ hR hfn hf h ?_)
    intro e fr' S' ρ' w' a' e' h1 h2 h3 h4 h5
    cases e with
    | normal =>
      cases e' <;> first
        | exact h4.elim
        | exact ihy ay hy F ρ' S' w' fr' a' K Q h1 (floor_ext h2 hfn) h3 h5 (hQ.ext h2)
    | exit id => cases e' <;> first | exact h4.elim | exact hQ _ fr' S' ρ' w' a' _ h1 h2 h3 h4 h5
    | ret => cases e' <;> first | exact h4.elim | exact hQ _ fr' S' ρ' w' a' _ h1 h2 h3 h4 h5
    | panic p => cases e' <;> first | exact h4.elim | exact hQ _ fr' S' ρ' w' a' _ h1 h2 h3 h4 h5
  | cond c x y ihx ihy =>
    intro ac hc F ρ S w fr a K Q hR hfn hf h hQ
    simp only [compCode, Option.bind_eq_bind, Option.bind_eq_some_iff, Option.some.injEq] at hc
    obtain ⟨c', hc', ax, hx, ay, hy, rfl⟩ := hc
    simp only [evCode] at h
    have hv := opd_ok hf.sl hc'
    split at h
    · rename_i hb
      exact wpIn_cond_true (hv.bool hb) (ihx ax hx F ρ S w fr a K Q hR hfn hf h hQ)
    · rename_i hb
      exact wpIn_cond_false (hv.bool hb) (ihy ay hy F ρ S w fr a K Q hR hfn hf h hQ)
    · exact h.elim
  | block id x ih =>
    intro ac hc F ρ S w fr a K Q hR hfn hf h hQ
    simp only [compCode, Option.map_eq_some_iff] at hc
    obtain ⟨ax, hx, rfl⟩ := hc
    refine wpIn_block (ih ax hx F ρ S w fr a _ _ hR hfn hf h ?_)
    intro e fr' S' ρ' w' a' e' h1 h2 h3 h4 h5
    cases e with
    | normal => cases e' <;> first | exact h4.elim | exact hQ .normal fr' S' ρ' w' a' .normal h1 h2 h3 trivial h5
    | exit j =>
      cases e' with
      | exit j' =>
        have h4 : j = j' := h4
        subst h4
        simp only [Exit.inBlock]
        simp only at h5
        split at h5
        · rename_i hb
          rw [beq_iff] at hb
          rw [if_pos hb]
          exact hQ .normal fr' S' ρ' w' a' .normal h1 h2 h3 trivial h5
        · rename_i hb
          rw [if_neg (fun e => by rw [beq_iff.2 e] at hb; cases hb)]
          exact hQ (.exit j) fr' S' ρ' w' a' (.exit j) h1 h2 h3 rfl h5
      | _ => exact h4.elim
    | ret => cases e' <;> first | exact h4.elim | exact hQ .ret fr' S' ρ' w' a' .ret h1 h2 h3 trivial h5
    | panic p => cases e' <;> first | exact h4.elim | exact hQ (.panic p) fr' S' ρ' w' a' _ h1 h2 h3 h4 h5
  | loop x ih =>
    intro ac hc F ρ S w fr a K Q hR hfn hf h hQ
    simp only [compCode, Option.map_eq_some_iff] at hc
    obtain ⟨ax, hx, rfl⟩ := hc
    refine wpIn_loop_fuel (fun j a w => ∃ ρ1 S1 fr1, R F ρ1 S1 w P ∧ S1.floor ≤ S1.next ∧ FrR F ρ1 S1 w P N G fr1 a ∧ iter badP (evCode badP allP call LF ax) j fr1 S1 K ∧ PostOk F ρ1 S1 w P N G K Q) LF ⟨ρ, S, fr, hR, hfn, hf, h, hQ⟩ ?_
    intro j a1 w1 hH
    obtain ⟨ρ1, S1, fr1, h1, h2, h3, h4, h5⟩ := hH
    cases j with
    | zero => exact h4.elim
    | succ j =>
      refine ih ax hx F ρ1 S1 w1 fr1 a1 _ _ h1 h2 h3 h4 ?_
      intro e fr' S' ρ' w' a' e' k1 k2 k3 k4 k5
      cases e with
      | normal => cases e' <;> first | exact k4.elim | exact ⟨j, Nat.lt_succ_self _, ρ', S', fr', k1, floor_ext k2 h2, k3, k5, h5.ext k2⟩
      | exit id => cases e' <;> first | exact k4.elim | exact h5 _ fr' S' ρ' w' a' _ k1 k2 k3 k4 k5
      | ret => cases e' <;> first | exact k4.elim | exact h5 _ fr' S' ρ' w' a' _ k1 k2 k3 k4 k5
      | panic p => cases e' <;> first | exact k4.elim | exact h5 _ fr' S' ρ' w' a' _ k1 k2 k3 k4 k5
  | rangeFunc g ps x y ihx ihy =>
    intro ac hc F ρ S w fr a K Q hR hfn hf h hQ
    simp only [compCode] at hc
    split at hc
    · rename_i hps
      simp only [Option.bind_eq_bind, Option.bind_eq_some_iff, Option.some.injEq] at hc
      obtain ⟨g', hg, ax, hx, ay, hy, rfl⟩ := hc
      simp only [evCode] at h
      split at h
      · rename_i fr' S0 c0 hin hone
        split at h
        · rename_i k pre post ht
          refine wpIn_rangeFunc fun fn _ => ?_
          obtain ⟨l, mark, w1, ρ1, e1, e2, e3, e4, e5, e6, e7⟩ := enter_ok hR hfn hf hin fn hps hx hy
          have hcl : CR F ρ S w P c0 (a.eval g) := (opd_ok hf.sl hg).one hone
          have hva : All2 (VlR F ρ1 (S0.alloc (.lp .ready fr.slots ps.toList ax ay none)) w1 P) [.one (.yld S0.next)] (#[Value.func (.yield l) #[] #[]] : Array Value).toList :=
            ⟨⟨e6, l, rfl, fun _ _ _ => e7⟩, trivial⟩
          obtain ⟨us, k1, d, k2, _, k3⟩ := run_target (hcl.ext e3) ht hva (fun id e => nomatch e)
          obtain ⟨⟨hen, hci⟩, _⟩ := hcall F ρ1 _ w1 (.f k) _ us _ _ e2 (floor_ext e3 hfn) k1 h
          refine ⟨l, mark, w1, d, w1, k, us, w1, e1, by
            have := k2 w1
            simpa [resolve, rangeCall, Act.eval] using this, fun _ _ => trivial, k3 hen w1, fence_depth G, ?_⟩
          have hci' : CallsIn (fence G) (0 - 1) P k us w1 (EndOk F ρ1 (S0.alloc (.lp .ready fr.slots ps.toList ax ay none)) w1 P (fun _ S2 => rfEnd badP S0.next fr' S2 K) (fun p S2 => K (.panic p) fr' S2)) := hci
          refine hci'.mono fun e w2 he => ?_
          cases e with
          | returned v =>
            obtain ⟨ρ2, S2, xv, q1, q2, q3, q4⟩ := he
            refine rfEnd_ok q1 (e4.ext q2) q4 (hQ.ext (e3.trans q2)) ?_
            unfold rfEnd at q4
            have hat : ∀ o', S2.get S0.next = some o' → o'.tag ≠ 0 → ρ2.at S0.next = ρ1.at S0.next := fun o' ho' ht' => by
              obtain ⟨_, _, _, e⟩ := q2.tagged e6 ho' ht'
              exact e
            split at q4
            · rename_i hg2 _; rw [hat _ hg2 (by simp [AObj.tag])]; exact e7
            · rename_i hg2 _; rw [hat _ hg2 (by simp [AObj.tag])]; exact e7
            · exact q4.elim
          | panicked chain =>
            obtain ⟨ρ2, S2, p, v, rfl, q1, q2, q3, q4⟩ := he
            exact hQ (.panic p) fr' S2 ρ2 w2 _ _ q1 (e3.trans q2) (e4.ext q2) ⟨v, rfl, q3⟩ q4
          | outgrown => exact he.elim
        · exact h.elim
      · exact h.elim
    · cases hc
  | exit id =>
    intro ac hc F ρ S w fr a K Q hR hfn hf h hQ
    cases hc
    exact wpIn_exit (hQ (.exit id) fr S ρ w a (.exit id) hR (Ext.refl _ _ _) hf rfl h)
  | scope x ih =>
    intro ac hc F ρ S w fr a K Q hR hfn hf h hQ
    refine wpIn_scope (ih ac hc F ρ S w fr a K _ hR hfn hf h ?_)
    intro e fr' S' ρ' w' a' e' h1 h2 h3 h4 h5
    exact ⟨h4.nogoto, hQ e fr' S' ρ' w' a' e' h1 h2 h3 h4 h5⟩
  | label l =>
    intro ac hc F ρ S w fr a K Q hR hfn hf h hQ
    cases hc
    exact wpIn_label (hQ .normal fr S ρ w a .normal hR (Ext.refl _ _ _) hf trivial h)
  | ret =>
    intro ac hc F ρ S w fr a K Q hR hfn hf h hQ
    cases hc
    exact wpIn_ret (hQ .ret fr S ρ w a .ret hR (Ext.refl _ _ _) hf trivial h)
  | goto l => intro ac hc; simp [compCode] at hc
  | refuse y => intro ac hc; simp [compCode] at hc

end
end Go.Rf
