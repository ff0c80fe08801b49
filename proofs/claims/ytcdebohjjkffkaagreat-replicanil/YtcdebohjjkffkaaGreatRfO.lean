/- Calls do what the machine says: results, deferred calls, recovery, rounds. -/
import Derived.Test.YtcdebohjjkffkaaGreatRfN
import Derived.RangeFuncLeaves
import Derived.RecoverIn
namespace Go.Rf
set_option linter.unusedVariables false
set_option linter.unusedSimpArgs false
open Go

section
variable {F : Fo} {ρ ρ' : Pl} {S S' : St} {w w' : World} {P : Program} {N : Nat} {G : Option Nat}

/-! ## Results -/

def resultOf (tmps : Array Value) : ResultVar → Sem Value
  | .tmp t => pure (tmps.getD t undef)
  | .cell a t => do loadVar t (← asAddr (tmps.getD a undef))

theorem resOf_ok (hR : R F ρ S w P) {slots : PM AVal} {tmps : Array Value} (hs : SlR F ρ S w P slots tmps) : ∀ (rvs : List ResultVar) (rs : List ARes) (vs : List Vl),
    mapO (compRes P) rvs = some rs → resOf S slots rs = some vs → ∃ us : List Value, (rvs.mapM (resultOf tmps)).run P w = .ok us w ∧ All2 (VlR F ρ S w P) vs us
  | [], rs, vs, h, h' => by
    simp only [mapO, Option.some.injEq] at h; subst h
    simp only [resOf, Option.some.injEq] at h'; subst h'
    exact ⟨[], rfl, trivial⟩
  | rv :: rvs, rs, vs, h, h' => by
    simp only [mapO] at h
    split at h
    · rename_i r hr
      split at h
      · rename_i rs' hrs
        cases h
        cases rv with
        | tmp t =>
          simp only [compRes, Option.some.injEq] at hr; subst hr
          simp only [resOf] at h'
          split at h'
          · rename_i x l hx hl
            cases h'
            obtain ⟨us, g1, g2⟩ := resOf_ok hR hs rvs rs' l hrs hl
            have := hs t
            rw [hx] at this
            exact ⟨_ :: us, by simp [List.mapM_cons, resultOf, g1], this, g2⟩
          · cases h'
        | cell a t =>
          simp only [compRes, Option.bind_eq_bind, Option.bind_eq_some_iff] at hr
          obtain ⟨sz, hsz, hr⟩ := hr
          split at hr
          · cases hr
          · rename_i h0
            simp only [Option.bind_eq_some_iff, Option.some.injEq] at hr
            obtain ⟨ag, hag, rfl⟩ := hr
            simp only [resOf] at h'
            split at h'
            · rename_i x l hx hl
              cases h'
              obtain ⟨us, g1, g2⟩ := resOf_ok hR hs rvs rs' l hrs hl
              obtain ⟨u, q1, q2⟩ := evLoad_ok hR hag hsz h0 hx (hs a)
              have q3 : (asAddr (tmps.getD a undef) >>= loadVar t).run P w = .ok u w := by
                cases hv : tmps.getD a undef with
                | pointer p =>
                  rw [hv] at q1
                  cases p with
                  | none => simp [Instr.loadAt, Instr.sureAddr] at q1
                  | some ad => simpa [Instr.loadAt, Instr.sureAddr, asAddr] using q1
                | _ => rw [hv] at q1; simp [Instr.loadAt, Instr.sureAddr] at q1
              refine ⟨u :: us, ?_, q2, g2⟩
              have q4 : (resultOf tmps (.cell a t)).run P w = .ok u w := q3
              simp [List.mapM_cons, q4, g1]
            · cases h'
      · cases h
    · cases h

theorem results_ok (hR : R F ρ S w P) {slots : PM AVal} {tmps : Array Value} (hs : SlR F ρ S w P slots tmps) {fn : Func} {rs : List ARes} {vs : List Vl}
    (hc : mapO (compRes P) fn.results.toList = some rs) (h : resOf S slots rs = some vs) :
    ∃ us : Array Value, All2 (VlR F ρ S w P) vs us.toList ∧ (results fn tmps).run P w = .ok (if h : us.size = 1 then us[0] else .tuple us) w := by
  obtain ⟨us, g1, g2⟩ := resOf_ok hR hs _ _ _ hc h
  refine ⟨us.toArray, g2, ?_⟩
  have hm : (fn.results.mapM (resultOf tmps)).run P w = .ok us.toArray w := by
    rw [Array.mapM_eq_mapM_toList]
    simp [g1]
  have hr : results fn tmps = (do
      let vs ← fn.results.mapM (resultOf tmps)
      pure (if h : vs.size = 1 then vs[0] else .tuple vs)) := rfl
  rw [hr]
  simp [hm]

theorem tup_ok {vs : List Vl} {us : Array Value} (h : All2 (VlR F ρ S w P) vs us.toList) : AR F ρ S w P (tupOf vs) (if h : us.size = 1 then us[0] else .tuple us) := by
  have hl := h.length
  unfold tupOf
  split
  · rename_i x
    have h1 : us.size = 1 := by rw [← Array.length_toList, ← hl]; rfl
    rw [dif_pos h1]
    obtain ⟨v, hv, hx⟩ := h.one_inv
    have : us[0] = v := by
      have h2 : us = #[v] := by rw [← Array.toList_inj]; exact hv
      simp [h2]
    rw [this]
    exact hx
  · rename_i hne
    have h1 : us.size ≠ 1 := by
      intro e
      rw [← Array.length_toList, ← hl] at e
      match vs, e with
      | [x], _ => exact hne x rfl
    rw [dif_neg h1]
    exact ⟨us, rfl, h⟩

/-! ## Entering -/

theorem enter_slots {args : List Vl} {vs : Array Value} (h : All2 (VlR F ρ S w P) args vs.toList) (k : Nat) :
    SlR F ρ S w P (PM.ofList (args.map .v)) (vs ++ Array.replicate k undef) := by
  intro t
  rw [PM.get_ofList, List.getElem?_map, Array.getD_eq_getD_getElem?]
  have hl := h.length
  by_cases ht : t < args.length
  · rw [List.getElem?_eq_getElem ht]
    have ht' : t < vs.size := by rw [← Array.length_toList]; omega
    rw [Array.getElem?_append_left ht', Array.getElem?_eq_getElem ht']
    simp only [Option.map_some, Option.getD_some]
    exact h.get t _ _ (List.getElem?_eq_getElem ht) (by rw [Array.getElem?_toList]; exact Array.getElem?_eq_getElem ht')
  · rw [List.getElem?_eq_none (by omega)]
    simp only [Option.map_none, Option.getD_none]
    have hu : (vs ++ Array.replicate k undef)[t]?.getD undef = undef := by
      rw [Array.getElem?_append_right (by rw [← Array.length_toList]; omega)]
      rw [Array.getElem?_replicate]
      split <;> rfl
    rw [hu]; exact undef_ok

/-! ## Deferred functions -/

/-- A panic under way: the mode of who leaves. -/
def ModeR (F : Fo) (ρ : Pl) (S : St) (w : World) (P : Program) : Option (APan × Bool) → FrameMode → Prop
  | none, .returning => True
  | some (p, b), .panicking chain => ∃ v, chain = [{ v, recovered := b }] ∧ PanR F ρ S w P p v
  | _, _ => False

theorem ModeR.ext (h : Ext ρ S w ρ' S' w') {pm : Option (APan × Bool)} {u : FrameMode} (hm : ModeR F ρ S w P pm u) : ModeR F ρ' S' w' P pm u := by
  cases pm with
  | none => cases u <;> exact hm
  | some p =>
    obtain ⟨p, b⟩ := p
    cases u with
    | panicking chain => obtain ⟨v, h1, h2⟩ := hm; exact ⟨v, h1, CR.ext h h2⟩
    | _ => exact hm

/-- What is asked behind a deferred function's code. -/
def PostS (F : Fo) (ρ : Pl) (S : St) (w : World) (P : Program) (N : Nat) (c₀ : Frame) (cs : List Frame) (K : AExit → Fr → St → Option (APan × Bool) → Prop) (Q : Exit → Act → List Frame → World → Prop) : Prop :=
  ∀ e fr' S' pm' ρ' w' a' e' u', R F ρ' S' w' P → Ext ρ S w ρ' S' w' → FrR F ρ' S' w' P N none fr' a' → ExR F ρ' S' w' P e e' → ModeR F ρ' S' w' P pm' u' → K e fr' S' pm' → Q e' a' ({ c₀ with mode := u' } :: cs) w'

theorem PostS.ext {c₀ : Frame} {cs : List Frame} (h : Ext ρ S w ρ' S' w') {K : AExit → Fr → St → Option (APan × Bool) → Prop} {Q : Exit → Act → List Frame → World → Prop} (hq : PostS F ρ S w P N c₀ cs K Q) : PostS F ρ' S' w' P N c₀ cs K Q :=
  fun e fr' S'' pm'' ρ'' w'' a' e' u' h1 h2 h3 h4 h5 h6 => hq e fr' S'' pm'' ρ'' w'' a' e' u' h1 (h.trans h2) h3 h4 h5 h6

theorem wpSIn_scope {Fc : Fence} {n : Nat} {c : Code} {Q : Exit → Act → List Frame → World → Prop} {a : Act} {cs : List Frame} {w : World}
    (h : c.wpSIn Fc n P (fun e a cs w => (∀ l, e ≠ .goto l) ∧ Q e a cs w) a cs w) : (Code.scope c).wpSIn Fc n P Q a cs w := by
  intro b k hk hro hb hr
  have h0 : (lone (b.atR a (.code (.scope c) :: k)) cs w).fenced P Fc := fenced_calm hb hr rfl
  obtain ⟨e, a₁, cs₁, w₁, hl, ⟨hng, hq⟩, harr⟩ := h b (.inScope c :: k) hk hro hb hr
  cases e with
  | normal => exact ⟨.normal, a₁, cs₁, w₁, hl, hq, StepsIn.head h0 stepR_scope (StepsIn.trans harr (.one (fenced_calm hb (hl ▸ hr) rfl) stepR_inScope))⟩
  | exit id =>
    refine ⟨.exit id, a₁, cs₁, w₁, hl, hq, fun k' hk => .head h0 stepR_scope (harr.1 k' (by rw [exitTo_scope]; exact hk)), fun hr' hk => ?_⟩
    obtain ⟨k₁, h1, h2⟩ := harr.2 hr' (by rw [exitTo_scope]; exact hk)
    exact ⟨k₁, h1, .head h0 stepR_scope h2⟩
  | goto l => exact absurd rfl (hng l)
  | ret => exact ⟨_, a₁, cs₁, w₁, hl, hq, .of_steps (.one h0 stepR_scope) harr⟩
  | panic ch => exact ⟨_, a₁, cs₁, w₁, hl, hq, .of_steps (.one h0 stepR_scope) harr⟩
  | outgrown => exact ⟨_, a₁, cs₁, w₁, hl, hq, .of_steps (.one h0 stepR_scope) harr⟩

theorem evS_ok {call : CallT Prop} (hcall : CallSound P call) (hdraw : DrawSound P call) (LF : Nat) : ∀ (c : Code) (ac : ACode), compCode P N c = some ac →
    ∀ (F : Fo) (ρ : Pl) (S : St) (w : World) (fr : Fr) (a : Act) (pm : Option (APan × Bool)) (u : FrameMode) (c₀ : Frame) (cs : List Frame) (K : AExit → Fr → St → Option (APan × Bool) → Prop) (Q : Exit → Act → List Frame → World → Prop),
      R F ρ S w P → S.floor ≤ S.next → FrR F ρ S w P N none fr a → ModeR F ρ S w P pm u → evS badP allP call LF ac fr S pm K → PostS F ρ S w P N c₀ cs K Q → c.wpSIn (fence none) 0 P Q a ({ c₀ with mode := u } :: cs) w := by
  intro c
  have plain : ∀ (c : Code) (ac : ACode), compCode P N c = some ac →
    ∀ (F : Fo) (ρ : Pl) (S : St) (w : World) (fr : Fr) (a : Act) (pm : Option (APan × Bool)) (u : FrameMode) (c₀ : Frame) (cs : List Frame) (K : AExit → Fr → St → Option (APan × Bool) → Prop) (Q : Exit → Act → List Frame → World → Prop),
      R F ρ S w P → S.floor ≤ S.next → FrR F ρ S w P N none fr a → ModeR F ρ S w P pm u → evCode badP allP call LF ac fr S (fun e fr S => K e fr S pm) → PostS F ρ S w P N c₀ cs K Q → c.wpSIn (fence none) 0 P Q a ({ c₀ with mode := u } :: cs) w := by
    intro c ac hc F ρ S w fr a pm u c₀ cs K Q hR hfn hf hm h hQ
    refine wpSIn_of_wpIn rfl (evCode_ok hcall hdraw LF c ac hc F ρ S w fr a _ _ hR hfn hf h ?_)
    intro e fr' S' ρ' w' a' e' h1 h2 h3 h4 h5
    exact hQ e fr' S' pm ρ' w' a' e' u h1 h2 h3 h4 (hm.ext h2) h5
  induction c with
  | seq x y ihx ihy =>
    intro ac hc F ρ S w fr a pm u c₀ cs K Q hR hfn hf hm h hQ
    simp only [compCode, Option.bind_eq_bind, Option.bind_eq_some_iff, Option.some.injEq] at hc
    obtain ⟨ax, hx, ay, hy, rfl⟩ := hc
    refine wpSIn_seq (ihx ax hx F ρ S w fr a pm u c₀ cs _ _ hR hfn hf hm h ?_)
    intro e fr' S' pm' ρ' w' a' e' u' h1 h2 h3 h4 h5 h6
    cases e with
    | normal =>
      cases e' <;> first
        | exact h4.elim
        | exact ihy ay hy F ρ' S' w' fr' a' pm' u' c₀ cs K Q h1 (floor_ext h2 hfn) h3 h5 h6 (hQ.ext h2)
    | exit id => cases e' <;> first | exact h4.elim | exact hQ _ fr' S' pm' ρ' w' a' _ u' h1 h2 h3 h4 h5 h6
    | ret => cases e' <;> first | exact h4.elim | exact hQ _ fr' S' pm' ρ' w' a' _ u' h1 h2 h3 h4 h5 h6
    | panic p => cases e' <;> first | exact h4.elim | exact hQ _ fr' S' pm' ρ' w' a' _ u' h1 h2 h3 h4 h5 h6
  | region id ops d =>
    intro ac hc F ρ S w fr a pm u c₀ cs K Q hR hfn hf hm h hQ
    have hc0 := hc
    cases d with
    | true =>
      simp only [compCode, Option.map_eq_some_iff] at hc
      obtain ⟨l, hl, rfl⟩ := hc
      exact plain _ _ hc0 F ρ S w fr a pm u c₀ cs K Q hR hfn hf hm h hQ
    | false =>
      simp only [compCode, Option.map_eq_some_iff] at hc
      obtain ⟨l, hl, rfl⟩ := hc
      have hev : evS badP allP call LF (.region l) fr S pm K = (match isRec l with
        | some dst => evRec dst fr S pm K
        | none => evCode badP allP call LF (.region l) fr S fun e fr S => K e fr S pm) := rfl
      rw [hev] at h
      cases hir : isRec l with
      | none => rw [hir] at h; exact plain _ _ hc0 F ρ S w fr a pm u c₀ cs K Q hR hfn hf hm h hQ
      | some dst =>
        rw [hir] at h
        simp only at h
        obtain ⟨anc, rfl⟩ : ∃ anc, l = [⟨dst, .recov, none, anc⟩] := by
          unfold isRec at hir
          split at hir
          · cases hir; exact ⟨_, rfl⟩
          · cases hir
        obtain ⟨o, rfl, hx⟩ : ∃ o, ops = #[o] ∧ compOper P N ops (#[]) 0 o = some ⟨dst, .recov, none, anc⟩ := by
          cases hops : ops.toList with
          | nil => rw [hops] at hl; simp [compOpers] at hl
          | cons o r =>
            rw [hops] at hl
            simp only [compOpers, Option.bind_eq_bind, Option.bind_eq_some_iff, Option.some.injEq] at hl
            obtain ⟨x, hx, l', hl', e⟩ := hl
            simp only [List.cons.injEq] at e
            obtain ⟨rfl, rfl⟩ := e
            cases r with
            | nil => exact ⟨o, by rw [← Array.toList_inj]; exact hops, hx⟩
            | cons o2 r =>
              simp only [compOpers, Option.bind_eq_bind, Option.bind_eq_some_iff, Option.some.injEq] at hl'
              obtain ⟨_, _, _, _, e⟩ := hl'
              cases e
        obtain ⟨c1, c2, c3, _, c5⟩ := compOper_inv hx
        have hdl := dstOk_lt c1
        simp only at c2 c3 c5
        have hrec : ∃ c, o.op = .call c ∧ c.callee = .builtin .recover := by
          rcases compOp_inv c2 with ⟨q, e, _⟩ | ⟨m, e, _⟩ | ⟨ee, e, _⟩ | ⟨_, h⟩ | ⟨c, t, as, e, _⟩
          · cases e
          · cases e
          · cases e
          · exact h
          · cases e
        obtain ⟨c, hoc, hcc⟩ := hrec
        have hg : o.guard = none := by
          cases hgg : o.guard with
          | none => rfl
          | some jb => obtain ⟨j, b⟩ := jb; rw [hgg] at c5; obtain ⟨t, _, e⟩ := c5; cases e
        refine wpSIn_region ?_
        have hrun : (execOp a.eval o).run P w = .ok .recover w := by
          unfold execOp; rw [hoc]
          simp only [resolve, hcc, Sem.run_bind]
          rfl
        have hwant : Region.wanted o (yielded #[o] a.tmps) = true := by unfold Region.wanted; rw [hg]
        have hput : ∀ {v : AVal} {z : Value} {pm' u'}, AR F ρ S w P v z → ModeR F ρ S w P pm' u' → K .normal (fr.setD dst v) S pm' → Q .normal (a.put o.dst z) ({ c₀ with mode := u' } :: cs) w := by
          intro v z pm' u' hv hm' hk
          refine hQ .normal _ S pm' ρ w _ .normal u' hR (Ext.refl _ _ _) (hf.set (dst := o.dst) hdl hv) trivial hm' ?_
          rw [← c3]
          exact hk
        have hoi : (#[o] : Array Oper)[0]? = some o := rfl
        show wpOpsSIn (fence none) 0 P #[o] Q [0] a _ w
        unfold wpOpsSIn
        rw [hoi]
        refine ⟨fun _ _ => trivial, ?_⟩
        rw [if_pos hwant, hrun]
        cases pm with
        | none =>
          cases u with
          | returning => exact hput (v := dv .nili) (z := .nilIface) (pm' := none) (u' := .returning) VD.nili trivial h
          | _ => exact hm.elim
        | some pb =>
          obtain ⟨p, b⟩ := pb
          cases u with
          | panicking chain =>
            have hm0 := hm
            obtain ⟨v, rfl, hv⟩ := hm
            cases b with
            | false => exact hput (v := .v (.one (.ifc p.t p.agg p.cs))) (z := v) (pm' := some (p, true)) (u' := .panicking [{ v, recovered := true }]) hv ⟨v, rfl, hv⟩ h
            | true => exact hput (v := dv .nili) (z := .nilIface) (pm' := some (p, true)) (u' := .panicking [{ v, recovered := true }]) VD.nili hm0 h
          | _ => exact hm.elim
  | scope x ih =>
    intro ac hc F ρ S w fr a pm u c₀ cs K Q hR hfn hf hm h hQ
    refine wpSIn_scope (ih ac hc F ρ S w fr a pm u c₀ cs K _ hR hfn hf hm h ?_)
    intro e fr' S' pm' ρ' w' a' e' u' h1 h2 h3 h4 h5 h6
    exact ⟨h4.nogoto, hQ e fr' S' pm' ρ' w' a' e' u' h1 h2 h3 h4 h5 h6⟩
  | label l =>
    intro ac hc F ρ S w fr a pm u c₀ cs K Q hR hfn hf hm h hQ
    have hc0 := hc
    cases hc
    exact plain _ _ hc0 F ρ S w fr a pm u c₀ cs K Q hR hfn hf hm h hQ
  | skip =>
    intro ac hc F ρ S w fr a pm u c₀ cs K Q hR hfn hf hm h hQ
    have hc0 := hc
    cases hc
    exact plain _ _ hc0 F ρ S w fr a pm u c₀ cs K Q hR hfn hf hm h hQ
  | ret =>
    intro ac hc F ρ S w fr a pm u c₀ cs K Q hR hfn hf hm h hQ
    have hc0 := hc
    cases hc
    exact plain _ _ hc0 F ρ S w fr a pm u c₀ cs K Q hR hfn hf hm h hQ
  | exit id =>
    intro ac hc F ρ S w fr a pm u c₀ cs K Q hR hfn hf hm h hQ
    have hc0 := hc
    cases hc
    exact plain _ _ hc0 F ρ S w fr a pm u c₀ cs K Q hR hfn hf hm h hQ
  | cond c x y _ _ =>
    intro ac hc F ρ S w fr a pm u c₀ cs K Q hR hfn hf hm h hQ
    have hc0 := hc
    simp only [compCode, Option.bind_eq_bind, Option.bind_eq_some_iff, Option.some.injEq] at hc
    obtain ⟨_, _, _, _, _, _, rfl⟩ := hc
    exact plain _ _ hc0 F ρ S w fr a pm u c₀ cs K Q hR hfn hf hm h hQ
  | block id x _ =>
    intro ac hc F ρ S w fr a pm u c₀ cs K Q hR hfn hf hm h hQ
    have hc0 := hc
    simp only [compCode, Option.map_eq_some_iff] at hc
    obtain ⟨_, _, rfl⟩ := hc
    exact plain _ _ hc0 F ρ S w fr a pm u c₀ cs K Q hR hfn hf hm h hQ
  | loop x _ =>
    intro ac hc F ρ S w fr a pm u c₀ cs K Q hR hfn hf hm h hQ
    have hc0 := hc
    simp only [compCode, Option.map_eq_some_iff] at hc
    obtain ⟨_, _, rfl⟩ := hc
    exact plain _ _ hc0 F ρ S w fr a pm u c₀ cs K Q hR hfn hf hm h hQ
  | rangeFunc g ps x y _ _ =>
    intro ac hc F ρ S w fr a pm u c₀ cs K Q hR hfn hf hm h hQ
    have hc0 := hc
    simp only [compCode] at hc
    split at hc
    · simp only [Option.bind_eq_bind, Option.bind_eq_some_iff, Option.some.injEq] at hc
      obtain ⟨_, _, _, _, _, _, rfl⟩ := hc
      exact plain _ _ hc0 F ρ S w fr a pm u c₀ cs K Q hR hfn hf hm h hQ
    · cases hc
  | goto l => intro ac hc; simp [compCode] at hc
  | refuse y => intro ac hc; simp [compCode] at hc

end
end Go.Rf
