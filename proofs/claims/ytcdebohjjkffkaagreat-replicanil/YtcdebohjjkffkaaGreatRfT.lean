/- Quiet operations, all of them. -/
import Derived.Test.YtcdebohjjkffkaaGreatRfE
namespace Go.Rf
set_option linter.unusedVariables false
set_option linter.unusedSimpArgs false
open Go

section
variable {F : Fo} {ρ : Pl} {S : St} {w : World} {P : Program}

theorem eqOp_ok {op : BinOp} {b : Bool} {y : AVal} (h : eqOp op b = some y) : (op = .eql ∧ y = dv (.bool b)) ∨ (op = .neq ∧ y = dv (.bool (!b))) := by
  cases op <;> simp [eqOp] at h
  · exact .inl ⟨rfl, h.symm⟩
  · exact .inr ⟨rfl, h.symm⟩

/-- An equality that the model's word says. -/
theorem run_eqOp {op : BinOp} {b : Bool} {z : AVal} {t : TypeId} {x y : Value} (h : eqOp op b = some z) (hq : (Op.equal t x y).run P w = .ok b w)
    (he : binOp .eql t x y = (do pure (.bool (← Op.equal t x y)))) (hn : binOp .neq t x y = (do pure (.bool (!(← Op.equal t x y))))) :
    ∃ u, (binOp op t x y).run P w = .ok u w ∧ AR F ρ S w P z u := by
  rcases eqOp_ok h with ⟨rfl, rfl⟩ | ⟨rfl, rfl⟩
  · exact ⟨.bool b, by rw [he]; simp [hq], VD.bool b⟩
  · exact ⟨.bool (!b), by rw [hn]; simp [hq], VD.bool _⟩

theorem isNilP_ok {c : Cell0} {v : Value} {b : Bool} (h : isNilP c = some b) (hc : C0 F ρ S w c v) : (b = true ∧ v = .pointer none) ∨ (b = false ∧ ∃ a, v = .pointer (some a)) := by
  unfold isNilP at h
  split at h
  · cases h; cases hc; exact .inl ⟨rfl, rfl⟩
  · cases h; obtain ⟨_, a, e, _⟩ := hc; exact .inr ⟨rfl, a, e⟩
  · cases h; obtain ⟨b, off, vs, e, _⟩ := hc; exact .inr ⟨rfl, _, e⟩
  · cases h

theorem isNilI_ok {c : Cell} {v : Value} {b : Bool} (h : isNilI c = some b) (hc : CR F ρ S w P c v) : (b = true ∧ v = .nilIface) ∨ (b = false ∧ ∃ t u, v = .iface t u) := by
  unfold isNilI at h
  split at h
  · cases h; cases (show VD _ _ _ _ from hc); exact .inl ⟨rfl, rfl⟩
  · cases h; obtain ⟨u, e, _⟩ := hc; exact .inr ⟨rfl, _, u, e⟩
  · cases h

theorem equal_eq (t : TypeId) (x y : Value) : Op.equal t x y = Op.equalIn (9999 + 1) t x y := rfl

theorem eq_nil_ptr (d : Nat) {t e : TypeId} (hu : P.underlying t = some (.pointer e)) (b : Option Addr) : (Op.equalIn (d + 1) t (.pointer none) (.pointer b)).run P w = .ok b.isNone w := by
  simp [Op.equalIn, run_und hu]
theorem eq_ptr_nil (d : Nat) {t e : TypeId} (hu : P.underlying t = some (.pointer e)) (a : Addr) : (Op.equalIn (d + 1) t (.pointer (some a)) (.pointer none)).run P w = .ok false w := by
  simp [Op.equalIn, run_und hu]
theorem eq_nil_if (d : Nat) {t : TypeId} {e : Array (String × TypeId)} (hu : P.underlying t = some (.interface e)) : (Op.equalIn (d + 1) t .nilIface .nilIface).run P w = .ok true w := by
  simp [Op.equalIn, run_und hu]
theorem eq_if_nil (d : Nat) {t : TypeId} {e : Array (String × TypeId)} (hu : P.underlying t = some (.interface e)) (t' : TypeId) (u : Value) : (Op.equalIn (d + 1) t (.iface t' u) .nilIface).run P w = .ok false w := by
  simp [Op.equalIn, run_und hu]

theorem evBin_ok {op : BinOp} {k : CmpK} {t : TypeId} {xo yo : Operand} {x y z : AVal} {a b : Value} (hk : cmpK P t = some k) (hi : k = .iface → yo = .const .nilIface)
    (h : evBin op k x y = some z) (hx : AR F ρ S w P x a) (hy : AR F ρ S w P y b) :
    ∃ u, (do eqGuard op t xo yo a b; binOp op t a b : Sem Value).run P w = .ok u w ∧ AR F ρ S w P z u := by
  cases k with
  | scalar =>
    simp only [evBin] at h
    split at h
    · rename_i d e hd he
      cases hz : binD op d e with
      | none => simp [hz] at h
      | some r =>
        simp only [hz, Option.map_some, Option.some.injEq] at h; subst h
        have hx := hx.dat hd
        have hy := hy.dat he
        unfold binD at hz
        split at hz
        · rename_i k1 m k2 n
          rw [hx.int_inv, hy.int_inv]
          have hg : (eqGuard op t xo yo (.int k1 m) (.int k2 n)).run P w = .ok () w := by cases op <;> rfl
          simp only [Sem.run_bind, hg, Result.andThen_ok]
          split at hz
          · rename_i hs
            obtain ⟨v, e1, e2⟩ := shiftI_ok (F := F) (ρ := ρ) (S := S) (w := w) (P := P) (k' := k2) hz
            refine ⟨v, ?_, e2⟩
            cases op <;> simp [isShift] at hs <;> exact e1
          · rename_i hs
            split at hz
            · cases hz
            · rename_i hkk
              have := kEq_iff.1 hkk; subst this
              obtain ⟨v, e1, e2⟩ := binI_ok (F := F) (ρ := ρ) (S := S) (w := w) (P := P) hz
              refine ⟨v, ?_, e2⟩
              cases op <;> simp [isShift] at hs <;> simp only [binOp, ne_eq, not_true_eq_false, if_false] <;> exact e1
        · rename_i s1 s2
          obtain ⟨u1, rfl, rfl⟩ := hx.str_inv
          obtain ⟨u2, rfl, rfl⟩ := hy.str_inv
          have hg : (eqGuard op t xo yo (.string u1) (.string u2)).run P w = .ok () w := by cases op <;> rfl
          simp only [Sem.run_bind, hg, Result.andThen_ok]
          obtain ⟨v, e1, e2⟩ := binS_ok (F := F) (ρ := ρ) (S := S) (w := w) (P := P) hz
          refine ⟨v, ?_, e2⟩
          cases op <;> exact e1
        · rename_i k1 m k2 n
          rw [hx.flt_inv, hy.flt_inv]
          have hg : (eqGuard op t xo yo (.float k1 m) (.float k2 n)).run P w = .ok () w := by cases op <;> rfl
          simp only [Sem.run_bind, hg, Result.andThen_ok]
          split at hz
          · cases hz
          · rename_i hkk
            have : k1 = k2 := of_decide_eq_true hkk
            subst this
            split at hz <;> first | cases hz | skip
            all_goals (refine ⟨_, ?_, VD.bool _⟩; simp only [binOp, ne_eq, not_true_eq_false, if_false]; rfl)
        · cases hz
    · cases h
  | bool =>
    simp only [evBin] at h
    split at h
    · rename_i d e hd he
      rw [hx.bool hd, hy.bool he]
      have hu : P.underlying t = some .bool := by
        unfold cmpK at hk
        split at hk <;> first | assumption | (cases hk; done) | skip
        split at hk
        · cases hk
        · cases hs : sksOf P 8 t with
          | none => simp [hs] at hk
          | some l => simp [hs] at hk
        split at hk
        · cases hk
        · cases hs : sksOf P 8 t with
          | none => simp [hs] at hk
          | some l => simp [hs] at hk
      have hg : (eqGuard op t xo yo (.bool d) (.bool e)).run P w = .ok () w := by cases op <;> rfl
      simp only [Sem.run_bind, hg, Result.andThen_ok]
      exact run_eqOp h (by rw [equal_eq, run_equalIn_bool' w _ t _ _ hu]) rfl rfl
    · cases h
  | ptr =>
    have hu : ∃ e, P.underlying t = some (.pointer e) := by
      unfold cmpK at hk
      split at hk <;> first | (rename_i e hu; exact ⟨_, hu⟩) | (cases hk; done) | skip
      all_goals
        split at hk
        · cases hk
        · cases hs : sksOf P 8 t with
          | none => simp [hs] at hk
          | some l => simp [hs] at hk
    obtain ⟨el, hu⟩ := hu
    simp only [evBin] at h
    split at h
    · rename_i c1 c2 h1 h2
      have hx := hx.cell0 h1
      have hy := hy.cell0 h2
      split at h
      · rename_i b' e1 e2
        rcases isNilP_ok e1 hx with ⟨_, rfl⟩ | ⟨hh, _⟩
        · rcases isNilP_ok e2 hy with ⟨hb, rfl⟩ | ⟨hb, ad, rfl⟩
          · have hg : (eqGuard op t xo yo (.pointer none) (.pointer none)).run P w = .ok () w := by cases op <;> rfl
            simp only [Sem.run_bind, hg, Result.andThen_ok]
            refine run_eqOp h ?_ rfl rfl
            rw [equal_eq, eq_nil_ptr _ hu, hb]; rfl
          · have hg : (eqGuard op t xo yo (.pointer none) (.pointer (some ad))).run P w = .ok () w := by cases op <;> rfl
            simp only [Sem.run_bind, hg, Result.andThen_ok]
            refine run_eqOp h ?_ rfl rfl
            rw [equal_eq, eq_nil_ptr _ hu, hb]; rfl
        · cases hh
      · rename_i e1 e2
        rcases isNilP_ok e1 hx with ⟨hh, _⟩ | ⟨_, ad, rfl⟩
        · cases hh
        · rcases isNilP_ok e2 hy with ⟨_, rfl⟩ | ⟨hh, _⟩
          · have hg : (eqGuard op t xo yo (.pointer (some ad)) (.pointer none)).run P w = .ok () w := by cases op <;> rfl
            simp only [Sem.run_bind, hg, Result.andThen_ok]
            refine run_eqOp h ?_ ?_ ?_
            · rw [equal_eq, eq_ptr_nil _ hu]
            · rfl
            · rfl
          · cases hh
      · cases h
    · cases h
  | iface =>
    have hyo := hi rfl
    subst hyo
    have hu : ∃ e, P.underlying t = some (.interface e) := by
      unfold cmpK at hk
      split at hk <;> first | (rename_i e hu; exact ⟨_, hu⟩) | (cases hk; done) | skip
      all_goals
        split at hk
        · cases hk
        · cases hs : sksOf P 8 t with
          | none => simp [hs] at hk
          | some l => simp [hs] at hk
    obtain ⟨el, hu⟩ := hu
    simp only [evBin] at h
    split at h
    · rename_i c1 c2 h1 h2
      have hx := hx.one h1
      have hy := hy.one h2
      split at h
      · rename_i b' e1 e2
        rcases isNilI_ok e2 hy with ⟨_, rfl⟩ | ⟨hh, _⟩
        · rcases isNilI_ok e1 hx with ⟨hb, rfl⟩ | ⟨hb, t', u', rfl⟩
          · have hg : (eqGuard op t xo (.const .nilIface) .nilIface .nilIface).run P w = .ok () w := by
              cases op <;> first | rfl | (simp [eqGuard])
            simp only [Sem.run_bind, hg, Result.andThen_ok]
            refine run_eqOp h ?_ rfl rfl
            rw [equal_eq, eq_nil_if _ hu, hb]
          · have hg : (eqGuard op t xo (.const .nilIface) (.iface t' u') .nilIface).run P w = .ok () w := by cases op <;> rfl
            simp only [Sem.run_bind, hg, Result.andThen_ok]
            refine run_eqOp h ?_ rfl rfl
            rw [equal_eq, eq_if_nil _ hu, hb]
        · cases hh
      · cases h
    · cases h
  | agg ks =>
    have hu : P.eqGuardType P.depth t = false ∧ sksOf P 8 t = some ks ∧ isAggT P t = some true := by
      unfold cmpK at hk
      unfold isAggT
      split at hk <;> first | (cases hk; done) | skip
      all_goals
        rename_i hu
        rw [hu]
        split at hk
        · cases hk
        · rename_i hg
          cases hs : sksOf P 8 t with
          | none => simp [hs] at hk
          | some l => simp [hs] at hk; subst hk; exact ⟨by simpa using hg, rfl, rfl⟩
    obtain ⟨hgt, hks, hag⟩ := hu
    simp only [evBin] at h
    split at h
    · rename_i ca cb
      split at h
      · rename_i da db h1 h2
        split at h
        · rename_i r hr
          have e1 := dats_eq _ _ h1
          have e2 := dats_eq _ _ h2
          subst e1; subst e2
          obtain ⟨X, rfl, hX⟩ := hx
          obtain ⟨Y, rfl, hY⟩ := hy
          have hX := All2.map_left.1 hX
          have hY := All2.map_left.1 hY
          have hp := aggEq_ok ks da db _ _ r hr hX hY
          simp only [Sem.run_bind, run_eqGuard_agg w op t xo (.const .nilIface) X Y hgt]
          have hg : (eqGuard op t xo yo (.agg X) (.agg Y)).run P w = .ok () w := run_eqGuard_agg w op t xo yo X Y hgt
          simp only [hg, Result.andThen_ok]
          exact run_eqOp h (by rw [equal_eq]; exact (equalIn_ok 8 t ks (9999 + 1) hks (by omega)).1 hag X Y r hp) rfl rfl
        · cases h
      · cases h
    · cases h

end
end Go.Rf
