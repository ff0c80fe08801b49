/- All quiet operations in one theorem: what the machine yields, the model yields. -/
import Derived.Test.YtcdebohjjkffkaaGreatRfY
namespace Go.Rf
set_option linter.unusedVariables false
set_option linter.unusedSimpArgs false
open Go

section
variable {F : Fo} {ρ : Pl} {S : St} {w : World} {P : Program}

theorem value_run {s : Sem Value} {u : Value} (h : s.run P w = .ok u w) : (do pure (Next.value (← s)) : Sem Next).run P w = .ok (.value u) w := by
  simp [h]

theorem build_struct (hR : R F ρ S w P) {slots : PM AVal} {a : Act} (hs : SlR F ρ S w P slots a.tmps) {t : TypeId} {z : Vl} {fs : Array Field} {places : List (Nat × Nat)} {ps : Array (Nat × Operand)}
    {qs : List (Nat × Nat × AOpd)} (hz : zeroOf P t = some z) (ht : P.underlying t = some (.struct fs)) (hp : fieldsPlaces P fs = some places)
    (hq : partsOf (places.toArray[·]?) ps.toList = some qs) {l : List Cell} (h : fillAll (rdS slots) qs z.cells = some l) :
    ∃ u, (Instr.build t (ps.map fun (i, x) => (i, a.eval x))).run P w = .ok u w ∧ AR F ρ S w P (.v (.agg l)) u := by
  obtain ⟨i, v, h1, h2, h3⟩ := zeroOf_ok hz
  obtain ⟨cells', g1, g2⟩ := fill_ok hs ps.toList qs z.cells l v.cells hq h (VlR.cells (vlOf_ok h3))
  refine ⟨.agg cells', run_build w t _ cells' ?_, _, rfl, g2⟩
  unfold Program.built
  unfold fieldsPlaces at hp
  simp only [h1, h2, ht, hp]
  rw [Array.toList_map]; exact g1

theorem build_array (hR : R F ρ S w P) {slots : PM AVal} {a : Act} (hs : SlR F ρ S w P slots a.tmps) {t e : TypeId} {z : Vl} {n s : Nat} {ps : Array (Nat × Operand)}
    {qs : List (Nat × Nat × AOpd)} (hz : zeroOf P t = some z) (ht : P.underlying t = some (.array n e)) (hsz : szOf P e = some s)
    (hq : partsOf (fun i => some (i * s, s)) ps.toList = some qs) {l : List Cell} (h : fillAll (rdS slots) qs z.cells = some l) :
    ∃ u, (Instr.build t (ps.map fun (i, x) => (i, a.eval x))).run P w = .ok u w ∧ AR F ρ S w P (.v (.agg l)) u := by
  obtain ⟨i, v, h1, h2, h3⟩ := zeroOf_ok hz
  obtain ⟨j, h4, h5⟩ := szOf_info hsz
  obtain ⟨cells', g1, g2⟩ := fill_ok hs ps.toList qs z.cells l v.cells hq h (VlR.cells (vlOf_ok h3))
  refine ⟨.agg cells', run_build w t _ cells' ?_, _, rfl, g2⟩
  unfold Program.built
  simp only [h1, h2, ht, h4, h5]
  rw [Array.toList_map]; exact g1

theorem evLen_call (hR : R F ρ S w P) {slots : PM AVal} {a : Act} (hs : SlR F ρ S w P slots a.tmps) {b : Builtin} {ts : Array TypeId} {args : Array Operand} {q : QOp} {y : AVal} (ty : TypeId) (cs : Array Bool)
    (hq : compBuiltinQ P b ts.toList args.toList = some q) (h : evQ S (rdS slots) q = some y) :
    ∃ u, (builtin b ts ty cs (args.map a.eval)).run P w = .ok (.value u) w ∧ AR F ρ S w P y u := by
  unfold compBuiltinQ at hq
  split at hq
  · rename_i x hargs
    split at hq
    · rename_i t hts
      have e1 : ts = #[t] := by rw [← Array.toList_inj]; exact hts
      have e2 : args = #[x] := by rw [← Array.toList_inj]; exact hargs
      subst e1; subst e2
      have key : ∀ k, (match k with
            | LenK.str => P.underlying t = some .string
            | .sl => ∃ e, P.underlying t = some (.slice e)
            | .map => ∃ k e, P.underlying t = some (.map k e)) → (opd x).map (QOp.len k) = some q →
          ∃ u, (builtin .len #[t] ty cs (#[x].map a.eval)).run P w = .ok (.value u) w ∧ AR F ρ S w P y u := by
        intro k hk hq
        rw [Option.map_eq_some_iff] at hq
        obtain ⟨z, hz, rfl⟩ := hq
        obtain ⟨u, g1, g2⟩ := evLen_ok hR (ty := ty) hk h (opd_ok hs hz)
        exact ⟨u, value_run (by simpa using g1), g2⟩
      split at hq
      · rename_i ht; exact key .str ht hq
      · rename_i e ht; exact key .sl ⟨e, ht⟩ hq
      · rename_i k e ht; exact key .map ⟨k, e, ht⟩ hq
      · cases hq
    · cases hq
  · rename_i x y' hargs
    have e2 : args = #[x, y'] := by rw [← Array.toList_inj]; exact hargs
    subst e2
    simp only [Option.bind_eq_bind, Option.bind_eq_some_iff, Option.some.injEq] at hq
    obtain ⟨x', hx, z', hz, rfl⟩ := hq
    obtain ⟨u, g1, g2⟩ := evMnmx_ok (mx := true) h (opd_ok hs hx) (opd_ok hs hz)
    refine ⟨u, value_run ?_, g2⟩
    simpa [Builtin.max_] using g1
  · rename_i x y' hargs
    have e2 : args = #[x, y'] := by rw [← Array.toList_inj]; exact hargs
    subst e2
    simp only [Option.bind_eq_bind, Option.bind_eq_some_iff, Option.some.injEq] at hq
    obtain ⟨x', hx, z', hz, rfl⟩ := hq
    obtain ⟨u, g1, g2⟩ := evMnmx_ok (mx := false) h (opd_ok hs hx) (opd_ok hs hz)
    refine ⟨u, value_run ?_, g2⟩
    simpa [Builtin.min_] using g1
  · cases hq

theorem opdO_none {x : Option AOpd} (h : opdO none = some x) : x = none := by cases h; rfl

set_option maxHeartbeats 1000000 in
theorem evQ_ok (hR : R F ρ S w P) {slots : PM AVal} {a : Act} (hs : SlR F ρ S w P slots a.tmps) {o : Oper} {q : QOp} {y : AVal} (hq : compQ P o.op = some q) (h : evQ S (rdS slots) q = some y) :
    ∃ u, (execOp a.eval o).run P w = .ok (.value u) w ∧ AR F ρ S w P y u := by
  unfold execOp
  cases ho : o.op with
  | move x =>
    rw [ho] at hq
    simp only [compQ, Option.map_eq_some_iff] at hq
    obtain ⟨z, hz, rfl⟩ := hq
    refine ⟨a.eval x, rfl, ?_⟩
    have := opd_ok hs hz
    simp only [evQ, evMov] at h
    split at h <;> cases h <;> first | trivial | exact this
  | assign x =>
    rw [ho] at hq
    simp only [compQ, Option.map_eq_some_iff] at hq
    obtain ⟨z, hz, rfl⟩ := hq
    refine ⟨a.eval x, rfl, ?_⟩
    have := opd_ok hs hz
    simp only [evQ, evMov] at h
    split at h <;> cases h <;> first | trivial | exact this
  | pick c x z =>
    rw [ho] at hq
    simp only [compQ, Option.bind_eq_bind, Option.bind_eq_some_iff, Option.some.injEq] at hq
    obtain ⟨c', hc, x', hx, z', hz, rfl⟩ := hq
    simp only [evQ, evPick] at h
    split at h
    · rename_i hb
      cases h
      have := (opd_ok hs hc).bool hb
      exact ⟨a.eval x, by simp [this, asBool], opd_ok hs hx⟩
    · rename_i hb
      cases h
      have := (opd_ok hs hc).bool hb
      exact ⟨a.eval z, by simp [this, asBool], opd_ok hs hz⟩
    · cases h
  | build t ps =>
    rw [ho] at hq
    simp only [compQ, Option.bind_eq_bind, Option.bind_eq_some_iff] at hq
    obtain ⟨z, hz, hq⟩ := hq
    split at hq
    · rename_i fs ht
      split at hq
      · rename_i places hp
        rw [Option.map_eq_some_iff] at hq
        obtain ⟨qs, hqs, rfl⟩ := hq
        simp only [evQ, Option.map_eq_some_iff] at h
        obtain ⟨l, hl, rfl⟩ := h
        obtain ⟨u, g1, g2⟩ := build_struct hR hs hz ht hp hqs hl
        exact ⟨u, value_run g1, g2⟩
      · cases hq
    · rename_i n e ht
      simp only [Option.bind_eq_some_iff, Option.map_eq_some_iff] at hq
      obtain ⟨s, hsz, qs, hqs, rfl⟩ := hq
      simp only [evQ, Option.map_eq_some_iff] at h
      obtain ⟨l, hl, rfl⟩ := h
      obtain ⟨u, g1, g2⟩ := build_array hR hs hz ht hsz hqs hl
      exact ⟨u, value_run g1, g2⟩
    · cases hq
  | load t x =>
    rw [ho] at hq
    simp only [compQ, Option.bind_eq_bind, Option.bind_eq_some_iff] at hq
    obtain ⟨s, hsz, hq⟩ := hq
    split at hq
    · cases hq
    · rename_i h0
      simp only [Option.bind_eq_some_iff, Option.some.injEq] at hq
      obtain ⟨g, hg, x', hx, rfl⟩ := hq
      obtain ⟨u, g1, g2⟩ := evLoad_ok hR hg hsz h0 h (opd_ok hs hx)
      exact ⟨u, value_run g1, g2⟩
  | nilCheck x =>
    rw [ho] at hq
    simp only [compQ, Option.map_eq_some_iff] at hq
    obtain ⟨z, hz, rfl⟩ := hq
    obtain ⟨⟨p, hp⟩, h2⟩ := evNilck_ok h (opd_ok hs hz)
    refine ⟨a.eval x, ?_, h2⟩
    simp only [hp]; rfl
  | binOp op t x z fl =>
    rw [ho] at hq
    simp only [compQ, Option.bind_eq_bind, Option.bind_eq_some_iff] at hq
    obtain ⟨k, hk, hq⟩ := hq
    have fin : ∀ x' z', opd x = some x' → opd z = some z' → (k = .iface → z = .const .nilIface) → some (QOp.bin op k x' z') = some q →
        ∃ u, (do pure (Next.value (← (do eqGuard op t x z (a.eval x) (a.eval z); binOp op t (a.eval x) (a.eval z) : Sem Value))) : Sem Next).run P w = .ok (.value u) w ∧ AR F ρ S w P y u := by
      intro x' z' hx hz hi e
      cases e
      obtain ⟨u, g1, g2⟩ := evBin_ok hk hi h (opd_ok hs hx) (opd_ok hs hz)
      exact ⟨u, value_run g1, g2⟩
    split at hq
    · split at hq
      · simp only [Option.bind_eq_some_iff] at hq
        obtain ⟨x', hx, z', hz, e⟩ := hq
        exact fin x' z' hx hz (fun _ => rfl) e
      · cases hq
    · split at hq
      · simp only [Option.bind_eq_some_iff] at hq
        obtain ⟨x', hx, z', hz, e⟩ := hq
        exact fin x' z' hx hz (fun _ => rfl) e
      · cases hq
    · cases hq
    · rename_i hne _ _
      simp only [Option.bind_eq_some_iff] at hq
      obtain ⟨x', hx, z', hz, e⟩ := hq
      refine fin x' z' hx hz (fun e => ?_) e
      subst e
      simp_all
  | unOp op t x =>
    rw [ho] at hq
    simp only [compQ, Option.map_eq_some_iff] at hq
    obtain ⟨z, hz, rfl⟩ := hq
    obtain ⟨u, g1, g2⟩ := evUn_ok h (opd_ok hs hz)
    exact ⟨u, value_run g1, g2⟩
  | convert s t x =>
    rw [ho] at hq
    simp only [compQ] at hq
    split at hq
    · cases hq
    · rename_i k _ hk
      rw [Option.map_eq_some_iff] at hq
      obtain ⟨z, hz, rfl⟩ := hq
      obtain ⟨u, g1, g2⟩ := evConv_ok hR hk h (opd_ok hs hz)
      exact ⟨u, value_run g1, g2⟩
    · cases hq
  | makeInterface t x =>
    rw [ho] at hq
    simp only [compQ] at hq
    split at hq
    · cases hq
    · rename_i d hne hd
      rw [Option.map_eq_some_iff] at hq
      obtain ⟨z, hz, rfl⟩ := hq
      refine ⟨.iface t (a.eval x), value_run ?_, evMkif_ok h (opd_ok hs hz)⟩
      unfold Instr.makeInterface
      cases d <;> first | exact absurd rfl (hne _) | simp [run_und hd]
    · cases hq
  | makeFunc f xs ys =>
    rw [ho] at hq
    simp only [compQ, Option.bind_eq_bind, Option.bind_eq_some_iff] at hq
    obtain ⟨g, hg, as, has, bs, hbs, hq⟩ := hq
    split at hq
    · rename_i hc
      cases hq
      simp only [evQ, evMkfn] at h
      split at h
      · rename_i l1 l2 h1 h2
        cases h
        have hc1 : Calls1 P f g l1 l2 := by
          refine ⟨hg, ?_⟩
          cases f with
          | func k => exact .inl ⟨k, rfl⟩
          | _ =>
            right
            simp only [isFunc, Bool.false_or, Bool.and_eq_true, Bool.not_eq_true', List.isEmpty_iff] at hc
            have e1 := (mapO_eq _ _ h1).length
            have e2 := (mapO_eq _ _ h2).length
            refine ⟨fun e => ?_, ?_⟩
            · subst e
              simp only [List.length_nil, List.length_eq_zero_iff] at e1
              rw [e1] at hc; simp at hc
            · rw [hc.2] at e2
              simp only [List.length_nil] at e2
              exact List.length_eq_zero_iff.1 e2.symm
        exact ⟨.func f (xs.map a.eval) (ys.map a.eval), rfl, _, _, rfl, by rw [Array.toList_map]; exact vl0s_ok hs _ _ _ has h1, by rw [Array.toList_map]; exact vl0s_ok hs _ _ _ hbs h2, hc1⟩
      · cases h
    · cases hq
  | slice t x lo hi mx =>
    rw [ho] at hq
    simp only [compQ] at hq
    split at hq
    · rename_i ht
      split at hq
      · simp only [Option.bind_eq_bind, Option.bind_eq_some_iff, Option.some.injEq] at hq
        obtain ⟨x', hx, lo', hlo, hi', hhi, rfl⟩ := hq
        obtain ⟨u, g1, g2⟩ := evSslice_ok hs ht hlo hhi h (opd_ok hs hx)
        exact ⟨u, value_run g1, g2⟩
      · cases hq
    · rename_i e ht
      simp only [Option.bind_eq_bind, Option.bind_eq_some_iff] at hq
      obtain ⟨s, hsz, hq⟩ := hq
      split at hq
      · cases hq
      · rename_i hc
        simp only [Option.bind_eq_some_iff, Option.some.injEq] at hq
        obtain ⟨x', hx, lo', hlo, hi', hhi, mx', hmx, rfl⟩ := hq
        simp only [Bool.or_eq_true, Bool.and_eq_true, not_or, decide_eq_true_eq] at hc
        obtain ⟨u, g1, g2⟩ := evSlice_ok hs ht hsz hc.1 hlo hhi hmx (by cases mx <;> cases hi <;> simp_all) h (opd_ok hs hx)
        exact ⟨u, value_run g1, g2⟩
    · cases hq
  | fieldAddr t x f =>
    rw [ho] at hq
    simp only [compQ] at hq
    split at hq
    · rename_i fs ht
      split at hq
      · rename_i fd hf
        simp only [Option.bind_eq_bind, Option.bind_eq_some_iff] at hq
        obtain ⟨s, hsz, hq⟩ := hq
        split at hq
        · cases hq
        · rename_i h0
          simp only [Option.bind_eq_some_iff, Option.some.injEq] at hq
          obtain ⟨x', hx, rfl⟩ := hq
          obtain ⟨u, g1, g2⟩ := evFaddr_ok ht hf hsz h0 h (opd_ok hs hx)
          exact ⟨u, value_run g1, g2⟩
      · cases hq
    · cases hq
  | field t x f =>
    rw [ho] at hq
    simp only [compQ] at hq
    split at hq
    · rename_i fs ht
      split at hq
      · rename_i fd hf
        simp only [Option.bind_eq_bind, Option.bind_eq_some_iff] at hq
        obtain ⟨s, hsz, hq⟩ := hq
        split at hq
        · cases hq
        · rename_i h0
          simp only [Option.bind_eq_some_iff, Option.some.injEq] at hq
          obtain ⟨g, hg, x', hx, rfl⟩ := hq
          obtain ⟨u, g1, g2⟩ := evField_ok ht hf hg hsz h0 h (opd_ok hs hx)
          exact ⟨u, value_run g1, g2⟩
      · cases hq
    · cases hq
  | indexAddr t x i =>
    rw [ho] at hq
    simp only [compQ] at hq
    split at hq
    · rename_i e ht
      simp only [Option.bind_eq_bind, Option.bind_eq_some_iff] at hq
      obtain ⟨s, hsz, hq⟩ := hq
      split at hq
      · cases hq
      · rename_i h0
        simp only [Option.bind_eq_some_iff, Option.some.injEq] at hq
        obtain ⟨x', hx, i', hi, rfl⟩ := hq
        obtain ⟨u, g1, g2⟩ := evIaddr_ok hR hsz h0 (al := none) ht h (opd_ok hs hx) (opd_ok hs hi)
        exact ⟨u, value_run g1, g2⟩
    · rename_i n e ht
      simp only [Option.bind_eq_bind, Option.bind_eq_some_iff] at hq
      obtain ⟨s, hsz, hq⟩ := hq
      split at hq
      · cases hq
      · rename_i h0
        simp only [Option.bind_eq_some_iff, Option.some.injEq] at hq
        obtain ⟨x', hx, i', hi, rfl⟩ := hq
        obtain ⟨u, g1, g2⟩ := evIaddr_ok hR hsz h0 (al := some n) ht h (opd_ok hs hx) (opd_ok hs hi)
        exact ⟨u, value_run g1, g2⟩
    · cases hq
  | index t x i =>
    rw [ho] at hq
    simp only [compQ] at hq
    split at hq
    · rename_i ht
      simp only [Option.bind_eq_bind, Option.bind_eq_some_iff, Option.some.injEq] at hq
      obtain ⟨x', hx, i', hi, rfl⟩ := hq
      obtain ⟨u, g1, g2⟩ := evSidx_ok ht h (opd_ok hs hx) (opd_ok hs hi)
      exact ⟨u, value_run g1, g2⟩
    · rename_i n e ht
      simp only [Option.bind_eq_bind, Option.bind_eq_some_iff] at hq
      obtain ⟨s, hsz, hq⟩ := hq
      split at hq
      · cases hq
      · rename_i h0
        simp only [Option.bind_eq_some_iff, Option.some.injEq] at hq
        obtain ⟨g, hg, x', hx, i', hi, rfl⟩ := hq
        obtain ⟨u, g1, g2⟩ := evAidx_ok ht hg hsz h0 h (opd_ok hs hx) (opd_ok hs hi)
        exact ⟨u, value_run g1, g2⟩
    · cases hq
  | lookup t x i ok =>
    rw [ho] at hq
    simp only [compQ] at hq
    split at hq
    · rename_i kt et ht
      simp only [Option.bind_eq_bind, Option.bind_eq_some_iff, Option.some.injEq] at hq
      obtain ⟨k, hk, z, hz, x', hx, i', hi, rfl⟩ := hq
      obtain ⟨u, g1, g2⟩ := evLookup_ok hR ht hk hz h (opd_ok hs hx) (opd_ok hs hi)
      exact ⟨u, value_run g1, g2⟩
    · cases hq
  | typeAssert x st t ok =>
    rw [ho] at hq
    simp only [compQ] at hq
    split at hq
    · cases hq
    · rename_i d hne hd
      simp only [Option.bind_eq_bind, Option.bind_eq_some_iff, Option.some.injEq] at hq
      obtain ⟨z, hz, x', hx, rfl⟩ := hq
      obtain ⟨u, g1, g2⟩ := evTas_ok (st := st) hd (fun m e => hne m (by rw [e])) hz h (opd_ok hs hx)
      exact ⟨u, value_run g1, g2⟩
    · cases hq
  | extract x i =>
    rw [ho] at hq
    simp only [compQ, Option.map_eq_some_iff] at hq
    obtain ⟨z, hz, rfl⟩ := hq
    obtain ⟨u, g1, g2⟩ := evExtract_ok h (opd_ok hs hz)
    exact ⟨u, value_run g1, g2⟩
  | call c =>
    rw [ho] at hq
    simp only [compQ] at hq
    cases hcal : c.callee with
    | value x =>
      rw [hcal] at hq
      cases x with
      | func f =>
        simp only at hq
        split at hq
        · rename_i fn x hfn hargs
          have e2 : c.args = #[x] := by rw [← Array.toList_inj]; exact hargs
          split at hq
          · cases hq
          · rename_i hb
            have hb : fn.body.isNone = true := by cases hbb : fn.body <;> simp_all
            have hres : (resolve a.eval c o.type).run P w = .ok { target := .fn (.func f) #[], args := #[a.eval x] } w := by
              simp [resolve, hcal, e2, Deferred.ofValue, Act.eval]
            split at hq
            · rename_i hn
              rw [Option.map_eq_some_iff] at hq
              obtain ⟨z, hz, rfl⟩ := hq
              simp only [evQ, evFbits] at h
              split at h
              · rename_i n hd
                cases h
                have hv := VD.flt_inv ((opd_ok hs hz).dat hd)
                refine ⟨.int .u64 n, ?_, VD.int _ _⟩
                have := callFunc_fbits (w := w) hfn hb hn.1 hn.2 n
                simp [hres, invoke, hv, this]
              · cases h
            · split at hq
              · rename_i hn
                rw [Option.map_eq_some_iff] at hq
                obtain ⟨z, hz, rfl⟩ := hq
                simp only [evQ, evBitsf] at h
                split at h
                · rename_i n hd
                  cases h
                  have hv := VD.int_inv ((opd_ok hs hz).dat hd)
                  refine ⟨.float .f64 n.toNat, ?_, VD.flt _ _⟩
                  have := callFunc_bitsf (w := w) hfn hb hn.1 hn.2 n
                  simp [hres, invoke, hv, this]
                · cases h
              · cases hq
        · cases hq
      | _ => simp at hq
    | builtin b =>
      rw [hcal] at hq
      simp only at hq
      obtain ⟨u, g1, g2⟩ := evLen_call hR hs o.type (c.args.map fun | .const _ => true | _ => false) hq h
      refine ⟨u, ?_, g2⟩
      have hres : (resolve a.eval c o.type).run P w = .ok { target := .builtin b c.argTypes o.type (c.args.map fun | .const _ => true | _ => false), args := c.args.map a.eval } w := by
        simp only [resolve, hcal]; rfl
      rw [Sem.run_bind, hres]
      exact g1
    | invoke r n => rw [hcal] at hq; simp at hq
  | _ => rw [ho] at hq; simp [compQ] at hq

end
end Go.Rf
