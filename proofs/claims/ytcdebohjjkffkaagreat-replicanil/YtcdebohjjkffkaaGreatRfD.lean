/- Calls do what the machine says. -/
import Derived.Test.YtcdebohjjkffkaaGreatRfB
namespace Go.Rf
set_option linter.unusedVariables false
set_option linter.unusedSimpArgs false
open Go

/-- The table's functions are the program's. -/
def TabOk (P : Program) (A : FuncId → Option AFunc) : Prop :=
  ∀ g af, A g = some af → ∃ fn, P.funcs[g]? = some fn ∧ fn.name ≠ "runtime.NumGoroutine" ∧ compFunc P af.pure fn = some af

theorem TabOk.parts {P : Program} {A : FuncId → Option AFunc} (hA : TabOk P A) {g : FuncId} {af : AFunc} (h : A g = some af) :
    ∃ fn c, P.funcs[g]? = some fn ∧ fn.body = some c ∧ compCode P fn.ntmps c = some af.code ∧ mapO (compRes P) fn.results.toList = some af.res ∧ Enters P g := by
  obtain ⟨fn, h1, h2, h3⟩ := hA g af h
  unfold compFunc at h3
  simp only [Option.bind_eq_bind, Option.bind_eq_some_iff, Option.some.injEq] at h3
  obtain ⟨c, hc, ac, hac, r, hr, e⟩ := h3
  refine ⟨fn, c, h1, hc, by rw [← e]; exact hac, by rw [← e]; exact hr, fun args w => ?_⟩
  unfold callFunc
  simp [h1, h2, hc]

section
variable {F : Fo} {ρ ρ' : Pl} {S S' : St} {w w' : World} {P : Program} {N : Nat} {G : Option Nat} {A : FuncId → Option AFunc}

theorem frameOf {args : List Vl} {vs : Array Value} (h : All2 (VlR F ρ S w P) args vs.toList) (n : Nat) : FrR F ρ S w P n none (enterFr args none) { tmps := vs ++ Array.replicate (n - vs.size) undef, defers := [] } := by
  refine ⟨enter_slots h _, ?_, trivial, trivial⟩
  simp only [Array.size_append, Array.size_replicate]
  omega

theorem settle_of {pm : Option (APan × Bool)} {u : FrameMode} (h : ModeR F ρ S w P pm u) : (∀ p, pm ≠ some (p, true)) → settle u = u := by
  intro hp
  cases u with
  | panicking chain =>
    cases pm with
    | none => exact h.elim
    | some q =>
      obtain ⟨p, b⟩ := q
      obtain ⟨v, rfl, _⟩ := h
      cases b with
      | false => rfl
      | true => exact absurd rfl (hp p)
  | _ => rfl

theorem dEnd_inv {res : List ARes} {k : Option (APan × Bool) → St → Prop} {e : AExit} {fr : Fr} {T : St} {pm : Option (APan × Bool)} (h : dEnd badP res k e fr T pm) :
    (e = .normal ∨ e = .ret) ∧ fr.defers = [] ∧ res = [] ∧ k pm T := by
  unfold dEnd at h
  cases e with
  | normal =>
    cases hd : fr.defers with
    | cons _ _ => rw [hd] at h; exact h.elim
    | nil =>
      cases res with
      | cons _ _ => rw [hd] at h; exact h.elim
      | nil => rw [hd] at h; exact ⟨.inl rfl, rfl, rfl, h⟩
  | ret =>
    cases hd : fr.defers with
    | cons _ _ => rw [hd] at h; exact h.elim
    | nil =>
      cases res with
      | cons _ _ => rw [hd] at h; exact h.elim
      | nil => rw [hd] at h; exact ⟨.inr rfl, rfl, rfl, h⟩
  | exit j => exact h.elim
  | panic p => exact h.elim

theorem evLeave_ok (hA : TabOk P A) {call : CallT Prop} (hcall : CallSound P call) (hdraw : DrawSound P call) (LF : Nat) {fn : Func} {tmps : Array Value} {R' : Ending → World → Prop} {fin : Option APan → St → Prop} :
    ∀ (ds : List ADef) (dl : List Deferred) (pm : Option (APan × Bool)) (u : FrameMode) (F : Fo) (ρ : Pl) (S : St) (w : World), R F ρ S w P → S.floor ≤ S.next → All2 (DefR F ρ S w P) ds dl → ModeR F ρ S w P pm u →
      evLeave badP (evD badP allP A call LF) fin ds pm S →
      (∀ p S' ρ' w', R F ρ' S' w' P → Ext ρ S w ρ' S' w' → fin p S' → match p with
        | none => ∃ v, (results fn tmps).run P w' = .ok v w' ∧ R' (.returned v) w'
        | some p => ∀ v, PanR F ρ' S' w' P p v → R' (.panicked [{ v, recovered := false }]) w') →
      LeavesInM (fence none) 0 P fn tmps R' dl u w
  | [], dl, pm, u, F, ρ, S, w, hR, hfn, hd, hm, h, hfin => by
    cases hd.nil_inv
    cases pm with
    | none =>
      cases u with
      | returning => exact hfin none S ρ w hR (Ext.refl _ _ _) h
      | _ => exact hm.elim
    | some q =>
      obtain ⟨p, b⟩ := q
      cases u with
      | panicking chain =>
        obtain ⟨v, rfl, hv⟩ := hm
        cases b with
        | false => exact hfin (some p) S ρ w hR (Ext.refl _ _ _) h v hv
        | true => exact h.elim
      | _ => exact hm.elim
  | .mark id :: ds, dl, pm, u, F, ρ, S, w, hR, hfn, hd, hm, h, hfin => by
    obtain ⟨d, dl', rfl, hd1, hd2⟩ := hd.cons_inv
    have hu : u ≠ .run := by rintro rfl; cases pm <;> exact hm.elim
    simp only [evLeave] at h
    split at h
    · rename_i hg
      split at h
      · rename_i hfl
        rw [ble_iff] at hfl
        obtain ⟨_, r, hr1, hr2⟩ := hd1
        have hr := hr2 _ hg rfl
        subst hr
        have hb := (hR.ob _ _ hg).2
        obtain ⟨q1, q2⟩ := obj_turn (o := .deferred none) (ob' := .dfb true) hR hg rfl rfl trivial (Nat.le_refl _) hfl hb (by simp) (fun _ hb => hb)
        refine ⟨hu, .inl ⟨_, _, hr1, ?_, evLeave_ok hA hcall hdraw LF ds dl' pm u F ρ _ _ q1 (floor_ext q2 hfn) (hd2.mono fun _ _ hh => hh.ext q2) (hm.ext q2) h fun p S' ρ' w' k1 k2 => hfin p S' ρ' w' k1 (q2.trans k2)⟩⟩
        simp [Instr.takeDeferred, run_getObj hb, run_setObj _ hb]
      · exact h.elim
    · exact h.elim
  | .call g args :: ds, dl, pm, u, F, ρ, S, w, hR, hfn, hd, hm, h, hfin => by
    obtain ⟨d, dl', rfl, hd1, hd2⟩ := hd.cons_inv
    have hu : u ≠ .run := by rintro rfl; cases pm <;> exact hm.elim
    obtain ⟨fv, cap, vs, hr1, hr2, hr3⟩ := hd1
    simp only [evLeave, evD] at h
    split at h
    · exact h.elim
    · rename_i df hdf
      obtain ⟨fn', c, p1, p2, p3, p4, p5⟩ := hA.parts hdf
      refine ⟨hu, .inr ⟨(fun h => nomatch h), fv, cap, g, vs, hr1, hr2 p5 w, fun _ _ => trivial, callsDIn_of_wpSIn p1 p2 trivial ?_⟩⟩
      intro c₀ cs hc₀
      have hc₀' : ({ c₀ with mode := u } : Frame) = c₀ := by cases c₀; simp only at hc₀; subst hc₀; rfl
      have := evS_ok hcall hdraw LF c df.code p3 F ρ S w (enterFr args none) _ pm u c₀ cs _ (bodyPostS P fn' c₀ cs (fun
        | .returned _, u', w' => LeavesInM (fence none) 0 P fn tmps R' dl' (settle u') w'
        | .panicked chain, u', w' => LeavesInM (fence none) 0 P fn tmps R' dl' (raised u' chain) w'
        | .outgrown, _, w' => R' .outgrown w')) hR hfn (frameOf hr3 fn'.ntmps) hm h ?_
      · rw [hc₀'] at this; exact this
      · intro e fr' S' pm' ρ' w' a' e' u' k1 k2 k3 k4 k5 k6
        have fin' : fr'.defers = [] → df.res = [] → evLeave badP (evD badP allP A call LF) fin ds (settled pm') S' →
            a'.defers = [] ∧ ∃ u'', ({ c₀ with mode := u' } : Frame) :: cs = { c₀ with mode := u'' } :: cs ∧ ∃ v, (results fn' a'.tmps).run P w' = .ok v w' ∧ LeavesInM (fence none) 0 P fn tmps R' dl' (settle u'') w' := by
          intro hd0 hr0 hk
          have hd' := k3.d
          rw [hd0] at hd'
          refine ⟨hd'.nil_inv, u', rfl, .tuple #[], ?_, ?_⟩
          · have hres : fn'.results = #[] := by
              rw [hr0] at p4
              rw [← Array.toList_inj]
              have := (mapO_eq _ _ p4).length
              simpa using this
            simp [results, hres]
          · have rec' : ∀ pm'' u'', ModeR F ρ' S' w' P pm'' u'' → evLeave badP (evD badP allP A call LF) fin ds pm'' S' → LeavesInM (fence none) 0 P fn tmps R' dl' u'' w' := fun pm'' u'' q1 q2 =>
              evLeave_ok hA hcall hdraw LF ds dl' pm'' u'' F ρ' S' w' k1 (floor_ext k2 hfn) (hd2.mono fun _ _ hh => hh.ext k2) q1 q2 fun p S'' ρ'' w'' z1 z2 => hfin p S'' ρ'' w'' z1 (k2.trans z2)
            rcases pm' with _ | ⟨p, b⟩
            · rw [settle_of k5 (fun p e => nomatch e)]
              exact rec' none u' k5 hk
            · cases b with
              | false =>
                rw [settle_of k5 (fun p e => by cases e)]
                exact rec' _ u' k5 hk
              | true =>
                cases u' with
                | panicking chain =>
                  obtain ⟨v, rfl, _⟩ := k5
                  exact rec' none .returning trivial hk
                | _ => exact k5.elim
        obtain ⟨he, hd0, hr0, hk⟩ := dEnd_inv k6
        rcases he with rfl | rfl
        · cases e' <;> first | exact k4.elim | exact fin' hd0 hr0 hk
        · cases e' <;> first | exact k4.elim | exact fin' hd0 hr0 hk

/-- Rounds. -/
theorem rnd_slots {slots : PM AVal} {tmps : Array Value} (hs : SlR F ρ S w P slots tmps) : ∀ {params : List Nat} {args : List Vl} {vs : List Value}, (∀ p ∈ params, p < tmps.size) → All2 (VlR F ρ S w P) args vs → params.length = args.length →
    SlR F ρ S w P (rndSlots slots params args) ((params.zip vs).foldl (fun t (x, v) => t.setIfInBounds x v) tmps) ∧ ((params.zip vs).foldl (fun t (x, v) => t.setIfInBounds x v) tmps).size = tmps.size := by
  intro params
  unfold rndSlots
  induction params generalizing slots tmps with
  | nil => intro args vs _ _ _; exact ⟨hs, rfl⟩
  | cons p ps ih =>
    intro args vs hp hv hl
    cases args with
    | nil => simp at hl
    | cons a args =>
      obtain ⟨v, vs', rfl, h1, h2⟩ := hv.cons_inv
      simp only [List.zip_cons_cons, List.foldl_cons]
      have hp1 := hp p (by simp)
      obtain ⟨g1, g2⟩ := ih (slots := slots.set p (.v a)) (tmps := tmps.setIfInBounds p v) (hs.set hp1 h1) (args := args) (vs := vs') (fun q hq => by rw [Array.size_setIfInBounds]; exact hp q (by simp [hq])) h2 (by simpa using hl)
      exact ⟨g1, by rw [g2, Array.size_setIfInBounds]⟩

theorem rndEnd_ok {id l : Nat} {e : AExit} {e' : Exit} {K : AVal → St → Prop} {R' : Ending → World → Prop} {a : Act} (hR : R F ρ S w P) (he : ExR F ρ S w P e e') (h : rndEnd badP id e S K) (hl : ∀ o, S.get id = some o → o.tag = 3 → l = (ρ.at id).1)
    (hK : ∀ v u S' w', R F ρ S' w' P → Ext ρ S w ρ S' w' → AR F ρ S' w' P v u → K v S' → R' (.returned u) w') : roundPost P l R' e' a w := by
  have key : ∀ {st pd b} {q : Option Code}, rndEnd.fin badP id S K st pd b → PendR pd q → st = (if q.isNone then .ready else .done) → b = q.isNone → ∃ v w', (Instr.endRound l q).run P w = .ok v w' ∧ R' (.returned v) w' := by
    intro st pd b q hf hq hst hb
    unfold rndEnd.fin at hf
    split at hf
    · rename_i S' hset
      obtain ⟨st0, sl, ps, as, bo, p, hg, hfl, rfl⟩ := lpSet_inv hset
      have hl' := hl _ hg rfl
      subst hl'
      obtain ⟨L, hL, _⟩ := lp_ob hR hg
      obtain ⟨g1, g2⟩ := lp_turn (st := st) (p' := pd) (q := q) hR hg hfl hL hq
      refine ⟨.bool q.isNone, _, ?_, hK (dv (.bool b)) (.bool q.isNone) _ _ g1 g2 (by rw [hb]; exact VD.bool _) hf⟩
      rw [hst]
      simp only [Instr.endRound, Sem.run_bind, run_getLoop hL, Result.andThen_ok, run_setObj _ hL (by simp), Sem.run_pure]
    · exact hf.elim
  unfold rndEnd at h
  cases e with
  | normal => cases e' <;> first | exact he.elim | exact key h (q := none) trivial rfl rfl
  | ret => cases e' <;> first | exact he.elim | exact key h (q := some .ret) trivial rfl rfl
  | exit j => cases e' <;> first | exact he.elim | exact key h (q := some (.exit _)) he rfl rfl
  | panic p => exact h.elim

theorem evRound_ok {call : CallT Prop} (hcall : CallSound P call) (hdraw : DrawSound P call) (LF : Nat) (hR : R F ρ S w P) (hfn : S.floor ≤ S.next) {id : Nat} {slots : PM AVal} {params : List Nat} {assign body : ACode} {pd : Option (Option Nat)} {args : List Vl} {vs : Array Value}
    {K : AVal → St → Prop} {PN : APan → St → Prop} (hg : S.get id = some (.lp .ready slots params assign body pd)) (hv : All2 (VlR F ρ S w P) args vs.toList) (hl : params.length = args.length)
    (h : evCode badP allP call LF assign ⟨rndSlots slots params args, [], some id⟩ S (evRndIn badP allP call LF id body K)) :
    TgtRun P ρ w vs (EndOk F ρ S w P K PN) (.yld id) := by
  have hb := (hR.ob _ _ hg).1
  obtain ⟨L, hL, hLs, hLp, hLps, f, hca, hcb, hn, hps, hsl⟩ := lp_ob hR hg
  have hlen : vs.size = L.params.size := by
    rw [← Array.length_toList, ← hv.length, ← hl, ← hLps, Array.length_toList]
  obtain ⟨s1, s2⟩ := rnd_slots hsl (params := params) (args := args) (vs := vs.toList) (fun p hp => Nat.lt_of_lt_of_le (hps p hp) hn) hv hl
  have htm : (L.params.zip vs).foldl (fun tmps (t, a) => tmps.setIfInBounds t a) L.tmps = (params.zip vs.toList).foldl (fun t (x, v) => t.setIfInBounds x v) L.tmps := by
    rw [← Array.foldl_toList, Array.toList_zip, hLps]
  refine ⟨hb, (ρ.at id).1, L.fn, (L.params.zip vs).foldl (fun tmps (t, a) => tmps.setIfInBounds t a) L.tmps, L.assign, L.body, w, fun r => ?_, roundIn_of_wpIn trivial ?_⟩
  · by_cases e : r = (ρ.at id).1
    · left
      subst e
      simp [Instr.yield, run_getLoop hL, hlen]
    · exact .inr e
  · rw [htm]
    have hfr : FrR F ρ S w P f.ntmps (some (ρ.at id).1) ⟨rndSlots slots params args, [], some id⟩ { tmps := (params.zip vs.toList).foldl (fun t (x, v) => t.setIfInBounds x v) L.tmps, defers := [] } :=
      ⟨s1, by simp only [s2]; exact hn, trivial, hb, fun _ _ _ => rfl⟩
    refine evCode_ok (G := some (ρ.at id).1) hcall hdraw LF L.assign assign hca F ρ S w _ _ _ _ hR hfn hfr h ?_
    intro e fr1 S1 ρ1 w1 a1 e' h1 h2 h3 h4 h5
    unfold evRndIn at h5
    split at h5
    · rename_i st sl ps as bo pd' S1' hd0 hg1 hset
      cases e' <;> first | exact h4.elim | skip
      obtain ⟨st0, sl', ps', as', bo', p, hg1', hfl, rfl⟩ := lpSet_inv hset
      rw [hg1] at hg1'; cases hg1'
      have hat : ρ1.at id = ρ.at id := by
        obtain ⟨_, _, _, e⟩ := h2.tagged hb hg1 (by simp [AObj.tag])
        exact e
      obtain ⟨L1, hL1, hL1s, hL1p, _⟩ := lp_ob h1 hg1
      obtain ⟨g1, g2⟩ := lp_turn (st := .busy) h1 hg1 hfl hL1 hL1p
      rw [hat] at hL1 g1 g2
      refine ⟨World.put w1 (ρ.at id).1 (.loop { L1 with state := .busy }), ?_, ?_⟩
      · simp only [Instr.beginRound, Sem.run_bind, run_getLoop hL1, Result.andThen_ok, run_setObj _ hL1 (by simp), hL1s]
        rfl
      · refine evCode_ok (G := some (ρ.at id).1) hcall hdraw LF L.body body hcb F ρ1 _ _ fr1 a1 _ _ g1 (floor_ext g2 (floor_ext h2 hfn)) (h3.ext g2) h5 ?_
        intro e2 fr2 S2 ρ2 w2 a2 e2' k1 k2 k3 k4 k5
        unfold evRndOut at k5
        split at k5
        · have hE : Ext ρ S w ρ2 S2 w2 := h2.trans (g2.trans k2)
          refine rndEnd_ok (F := F) (S := S2) k1 k4 k5 (fun o ho ht => ?_) ?_
          · obtain ⟨_, _, _, e⟩ := hE.tagged hb ho (by omega)
            rw [e]
          · intro v u S' w' z1 z2 z3 z4
            exact ⟨ρ2, S', v, z1, hE.trans z2, z3, z4⟩
        · exact k5.elim
    · exact h5.elim

end

/-- A call does what the machine says, where the calls in it do. -/
theorem evStep_ok {P : Program} {A : FuncId → Option AFunc} (hA : TabOk P A) (LF : Nat) {call : CallT Prop} (hcall : CallSound P call) (hd : DrawSound P call) : CallSound P (evStep badP allP A LF call) := by
  intro F ρ S w tg args vs K PN hR hfn hv h
  cases tg with
  | yld id =>
    simp only [evStep] at h
    split at h
    · rename_i slots params assign body pd hg
      split at h
      · exact h.elim
      · rename_i hl
        rw [beq_iff] at hl
        exact ⟨evRound_ok hcall hd LF hR hfn hg hv hl h, fun id' e => by cases e; exact ⟨_, hg, rfl⟩⟩
    · exact h.elim
  | f g =>
    simp only [evStep] at h
    refine ⟨?_, fun id e => nomatch e⟩
    split at h
    · exact h.elim
    · rename_i af haf
      obtain ⟨fn, c, p1, p2, p3, p4, p5⟩ := hA.parts haf
      refine ⟨p5, ?_⟩
      have hfl : (inSt af.pure S).floor ≤ (inSt af.pure S).next := by
        unfold inSt; split
        · exact Nat.le_refl _
        · exact hfn
      have hR0 : R F ρ (inSt af.pure S) w P := by
        unfold inSt; split
        · exact hR.raise _
        · exact hR
      have hv0 : All2 (VlR F ρ (inSt af.pure S) w P) args vs.toList := by
        unfold inSt; split
        · exact hv
        · exact hv
      have hcalls : CallsIn (fence none) 0 P g vs w (EndOk F ρ S w P K PN) := by
        refine callsIn_of_wp_marks p1 p2 trivial (evCode_ok (G := none) hcall hd LF c af.code p3 F ρ (inSt af.pure S) w (enterFr args none) _ _ _ hR0 hfl (frameOf hv0 fn.ntmps) h ?_)
        intro e fr' S' ρ' w' a' e' h1 h2 h3 h4 h5
        have hfin : ∀ p S'' ρ'' w'', R F ρ'' S'' w'' P → Ext ρ' S' w' ρ'' S'' w'' → evFin badP af fr'.slots S K PN p S'' → match p with
            | none => ∃ v, (results fn a'.tmps).run P w'' = .ok v w'' ∧ EndOk F ρ S w P K PN (.returned v) w''
            | some p => ∀ v, PanR F ρ'' S'' w'' P p v → EndOk F ρ S w P K PN (.panicked [{ v, recovered := false }]) w'' := by
          intro p S'' ρ'' w'' q1 q2 q3
          have hE := h2.trans q2
          have hsl := h3.sl.ext q2
          cases p with
          | some p =>
            intro v hv
            cases hp : af.pure with
            | true => rw [evFin, hp] at q3; exact q3.elim
            | false =>
              rw [evFin, hp] at q3
              rw [hp] at hE
              exact ⟨ρ'', S'', p, v, rfl, q1, hE, hv, q3⟩
          | none =>
            simp only [evFin] at q3
            split at q3
            · exact q3.elim
            · rename_i rs hrs
              obtain ⟨us, z1, z2⟩ := results_ok q1 hsl p4 hrs
              refine ⟨_, z2, ?_⟩
              split at q3
              · rename_i hp
                rw [hp] at hE
                exact ⟨ρ'', S'', tupOf rs, q1, hE, tup_ok z1, q3⟩
              · rename_i hp
                rw [hp] at hE
                split at q3
                · rename_i rs' hrs'
                  obtain ⟨y1, y2⟩ := pure_ext hR hE
                  exact ⟨ρ, S, tupOf rs', y2, y1, tup_ok (pureVls_ok hR q1 hE hrs' z1), q3⟩
                · exact q3.elim
        unfold evOut at h5
        have hfl' := floor_ext h2 hfl
        cases e with
        | normal => cases e' <;> first | exact h4.elim | exact evLeave_ok hA hcall hd LF fr'.defers a'.defers none .returning F ρ' S' w' h1 hfl' h3.d trivial h5 hfin
        | ret => cases e' <;> first | exact h4.elim | exact evLeave_ok hA hcall hd LF fr'.defers a'.defers none .returning F ρ' S' w' h1 hfl' h3.d trivial h5 hfin
        | panic p => cases e' <;> first | exact h4.elim | exact evLeave_ok hA hcall hd LF fr'.defers a'.defers (some (p, false)) _ F ρ' S' w' h1 hfl' h3.d h4 h5 hfin
        | exit j => exact h5.elim
      exact hcalls

/-- Calls do what the machine says. -/
theorem evCall_ok {P : Program} {A : FuncId → Option AFunc} (hA : TabOk P A) (hdraw : ∀ call, CallSound P call → DrawSound P call) (LF : Nat) : ∀ n, CallSound P (evCall badP allP A LF n)
  | 0 => fun _ _ _ _ _ _ _ _ _ _ _ _ h => h.elim
  | n + 1 => fun F ρ S w tg args vs K PN hR hfn hv h => evStep_ok hA LF (evCall_ok hA hdraw LF n) (hdraw _ (evCall_ok hA hdraw LF n)) F ρ S w tg args vs K PN hR hfn hv h

end Go.Rf
