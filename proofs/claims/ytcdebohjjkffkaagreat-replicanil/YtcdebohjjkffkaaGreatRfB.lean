/- Functions that leave nothing behind: what they yield, without what they made. -/
import Derived.Test.YtcdebohjjkffkaaGreatRfO
namespace Go.Rf
set_option linter.unusedVariables false
set_option linter.unusedSimpArgs false
open Go

section
variable {F : Fo} {ρ ρ2 : Pl} {S S2 : St} {w w2 : World} {P : Program}

/-- The state with the floor raised. -/
theorem R.raise (hR : R F ρ S w P) (f : Nat) : R F ρ { S with floor := f } w P := ⟨hR.ob, hR.lt, hR.inj, hR.away, hR.flt, hR.res⟩

theorem pure_ext (hR : R F ρ S w P) (hE : Ext ρ { S with floor := S.next } w ρ2 S2 w2) : Ext ρ S w ρ S w2 ∧ R F ρ S w2 P := by
  have hlow : ∀ id o, S.get id = some o → w2.heap[(ρ.at id).1]? = w.heap[(ρ.at id).1]? := fun id o ho =>
    (hE.low id (hR.lt id (hR.ob id o ho).1)).2.2 o ho
  have hE' : Ext ρ S w ρ S w2 := by
    refine ⟨hE.size, Nat.le_refl _, fun _ h => h, fun b hb hno => ⟨hno, (hE.out b hb hno).2⟩, fun id o' _ ho => ⟨o', ho, o'.kin_refl, Nat.le_refl _, fun _ => ⟨rfl, SameRoom.congr (hlow id o' ho)⟩⟩, rfl, fun id _ => ⟨rfl, rfl, fun o ho => hlow id o ho⟩, hE.calm⟩
  exact ⟨hE', hR.go hE' hR.lt (fun id o h => .inl ⟨(hR.ob _ _ h).1, h, fun _ => hlow id o h⟩) hR.inj hR.away fun id h => (hR.res id h).1⟩

theorem pure_ro (hE : Ext ρ { S with floor := S.next } w ρ2 S2 w2) (hR : R F ρ S w P) (b : Nat) (h : Ro F ρ2 S2 w2 b) : Ro F ρ S w2 b := by
  obtain ⟨h1, h2, h3⟩ := h
  refine ⟨h1, ?_, h3⟩
  rintro ⟨id, o, g1, g2, g3⟩
  obtain ⟨k1, k2, _⟩ := hE.low id (hR.lt id (hR.ob id o g1).1)
  refine h2 ⟨id, o, k1.trans g1, g2, ?_⟩
  unfold Pl.at at g3 ⊢
  rw [k2]; exact g3

theorem pure_vd (hE : Ext ρ { S with floor := S.next } w ρ2 S2 w2) (hR : R F ρ S w P) {d : Dat} {v : Value} (h : VD w2 (Ro F ρ2 S2 w2) d v) : VD w2 (Ro F ρ S w2) d v :=
  h.mono fun b hb => ⟨pure_ro hE hR b hb, rfl⟩

/-- What a new row lies in is nobody's. -/
theorem pure_block (hE : Ext ρ { S with floor := S.next } w ρ2 S2 w2) (hR : R F ρ S w P) (hR2 : R F ρ2 S2 w2 P) {id : Nat} {o : AObj} (hid : S2.get id = some o) (hown : o.own = true) (hn : ¬ id < S.next) : Ro F ρ S w2 (ρ2.at id).1 := by
  refine ⟨hR2.block_lt hid, ?_, hR2.away id o hid hown⟩
  rintro ⟨j, o', g1, g2, g3⟩
  have hj := hR.lt j (hR.ob j o' g1).1
  obtain ⟨k1, k2, _⟩ := hE.low j hj
  have e : j = id := hR2.inj j id o' o (k1.trans g1) hid g2 hown (by
    unfold Pl.at at g3 ⊢
    rw [k2]; exact g3)
  omega

theorem cutEls_ok {ro : Nat → Prop} {sz off len b o cap : Nat} {a : Option Addr} {els : List (List Dat)} {vs : List Value} {c : Cell0} (h : cutEls off len els = some c) (h0 : 0 < sz) (hall : ∀ e ∈ els, e.length = sz) (hro : ro b)
    (hl : Lies w b o vs) (hv : All2 (VD w ro) els.flatten vs) (hle : len ≤ cap) (ha : 0 < cap → a = some ⟨b, o + off * sz, none⟩) :
    ∃ d, c = .d d ∧ VD w ro d (.slice a len cap) := by
  unfold cutEls at h
  split at h
  · rename_i l hl'
    cases h
    obtain ⟨e5, e6⟩ := takeN_eq _ _ _ hl'
    subst e5
    exact ⟨_, rfl, fro_part h0 hall hro hl hv hle (by rw [List.length_drop] at e6; exact e6) ha⟩
  · cases h

theorem cellDats_ok {f : Cell0 → Option Cell0} (hf : ∀ c c' v, f c = some c' → C0 F ρ2 S2 w2 c v → C0 F ρ S w2 c' v) : ∀ (cs : List Cell) (ds : List Dat) (vs : List Value), mapO (cellDat f) cs = some ds → All2 (CR F ρ2 S2 w2 P) cs vs → All2 (VD w2 (Ro F ρ S w2)) ds vs
  | [], ds, vs, h, hv => by
    simp only [mapO, Option.some.injEq] at h; subst h
    exact hv.nil_inv ▸ trivial
  | c :: cs, ds, vs, h, hv => by
    obtain ⟨u, us, rfl, m1, m2⟩ := hv.cons_inv
    simp only [mapO] at h
    split at h
    · rename_i d hd
      split at h
      · rename_i ds' hds'
        cases h
        refine ⟨?_, cellDats_ok hf cs ds' us hds' m2⟩
        cases c with
        | s c =>
          simp only [cellDat] at hd
          cases hpc : f c with
          | none => rw [hpc] at hd; cases hd
          | some c1 =>
            rw [hpc] at hd
            have := hf c c1 u hpc m1
            cases c1 with
            | d x => cases hd; exact this
            | _ => cases hd
        | _ => simp [cellDat] at hd
      · cases h
    · cases h

theorem pureCell_ok (hR : R F ρ S w P) (hR2 : R F ρ2 S2 w2 P) (hE : Ext ρ { S with floor := S.next } w ρ2 S2 w2) : ∀ (n : Nat) (c c' : Cell0) (v : Value), pureCell S2 S.next n c = some c' → C0 F ρ2 S2 w2 c v → C0 F ρ S w2 c' v := by
  have hlow : ∀ id, id < S.next → S2.get id = S.get id ∧ ρ2 id = ρ id := fun id h => ⟨(hE.low id h).1, (hE.low id h).2.1⟩
  have hat : ∀ id, id < S.next → ρ2.at id = ρ.at id := fun id h => by unfold Pl.at; rw [(hlow id h).2]
  have hdat : ∀ (n : Nat) (d : Dat) (c' : Cell0) (v : Value), pureCell S2 S.next n (.d d) = some c' → C0 F ρ2 S2 w2 (.d d) v → C0 F ρ S w2 c' v := by
    intro n d c' v h hc
    have hv := pure_vd hE hR (show VD w2 (Ro F ρ2 S2 w2) d v from hc)
    cases d
    case sl els cl =>
      have : c' = .d (.sl els false) := by cases n <;> simp only [pureCell, Option.some.injEq] at h <;> exact h.symm
      subst this
      cases hv with
      | sl _ _ a cap sz b off vs hle hcl hsz hlen ha hv => exact VD.sl els false a cap sz b off vs hle (fun h => nomatch h) hsz hlen ha hv
    all_goals
      cases n <;> (simp only [pureCell, Option.some.injEq] at h; subst h; exact hv)
  have hro : ∀ (n : Nat) (cs : List Dat) (c' : Cell0) (v : Value), pureCell S2 S.next n (.ro cs) = some c' → C0 F ρ2 S2 w2 (.ro cs) v → C0 F ρ S w2 c' v := by
    intro n cs c' v h hc
    have : c' = .ro cs := by cases n <;> simp only [pureCell, Option.some.injEq] at h <;> exact h.symm
    subst this
    obtain ⟨b, off, vs, h1, h2, h3, h4⟩ := hc
    exact ⟨b, off, vs, h1, h2, fun hne => ⟨pure_ro hE hR b (h3 hne).1, (h3 hne).2⟩, h4.mono fun _ _ hh => pure_vd hE hR hh⟩
  intro n
  induction n with
  | zero =>
    intro c c' v h hc
    cases c with
    | d d => exact hdat 0 d c' v h hc
    | ro cs => exact hro 0 cs c' v h hc
    | _ => simp [pureCell] at h
  | succ n ih =>
    intro c c' v h hc
    cases c with
    | d d => exact hdat _ d c' v h hc
    | ro cs => exact hro _ cs c' v h hc
    | it id => simp [pureCell] at h
    | ptr id ver off =>
      simp only [pureCell] at h
      split at h
      · rename_i hb
        rw [blt_iff] at hb
        cases h
        obtain ⟨hs, a, e, hp⟩ := hc
        refine ⟨by rw [← (hlow id hb).2]; exact hs, a, e, fun sz ver' hr => ?_⟩
        rw [← hat id hb]
        refine hp sz ver' ?_
        unfold rowOf at hr ⊢
        rw [(hlow id hb).1]; exact hr
      · cases h
    | mp id =>
      simp only [pureCell] at h
      split at h
      · rename_i hb
        rw [blt_iff] at hb
        cases h
        obtain ⟨hs, r, e, hp⟩ := hc
        refine ⟨by rw [← (hlow id hb).2]; exact hs, r, e, fun o ho ht => ?_⟩
        rw [← hat id hb]
        exact hp o ((hlow id hb).1.trans ho) ht
      · cases h
    | sl id ver off len cl =>
      simp only [pureCell] at h
      split at h
      · rename_i hb
        rw [blt_iff] at hb
        cases h
        obtain ⟨hs, a, cap, e, g1, g2, hp⟩ := hc
        refine ⟨by rw [← (hlow id hb).2]; exact hs, a, cap, e, g1, g2, fun sz ver' hr => ?_⟩
        rw [← hat id hb]
        refine hp sz ver' ?_
        unfold rowOf at hr ⊢
        rw [(hlow id hb).1]; exact hr
      · rename_i hb
        have hb : ¬ id < S.next := by
          intro hh
          rw [← blt_iff] at hh
          rw [hh] at hb; cases hb
        obtain ⟨hs, a, cap, rfl, g1, g2, hp⟩ := hc
        split at h
        · rename_i t sz ver' cs hg
          split at h
          · rename_i hv
            rw [Bool.and_eq_true, beq_iff, blt_iff] at hv
            obtain ⟨rfl, hz⟩ := hv
            unfold cutRow at h
            split at h
            · rename_i ds hds
              split at h
              · rename_i els hch
                obtain ⟨_, vs, k1, k2⟩ := row_lies hR2 hg
                obtain ⟨q1, q2, q3, q4⟩ := chunk_eq _ _ _ hch
                have hall : All2 (VD w2 (Ro F ρ S w2)) ds vs := cellDats_ok ih cs ds vs hds k2
                have h7 : els.flatten = ds.take els.flatten.length := by
                  conv => lhs; rw [q3]
                  rw [q3, List.length_take]
                  rw [Nat.min_eq_left q4]
                obtain ⟨d, rfl, hd⟩ := cutEls_ok (a := a) (cap := cap) (sz := sz) (vs := vs.take els.flatten.length) h hz q2 (pure_block hE hR hR2 hg rfl hb) (k1.take _) (by
                  conv => arg 2; rw [h7]
                  exact hall.take _) g1 (fun hcap => ((hp sz ver (.inl ⟨t, cs, hg⟩)).2 rfl hcap).1)
                exact hd
              · cases h
            · cases h
          · cases h
        · rename_i sz ver' els hg
          split at h
          · rename_i hv
            rw [beq_iff] at hv; subst hv
            obtain ⟨hz0, q2, hro', vs, hlies, hvd⟩ := (hR2.ob _ _ hg).2
            obtain ⟨d, rfl, hd⟩ := cutEls_ok (a := a) (cap := cap) (sz := sz) h hz0 q2 (pure_ro hE hR _ hro') hlies (hvd.mono fun _ _ hh => pure_vd hE hR hh) g1 (fun hcap => ((hp sz ver (.inr ⟨els, hg⟩)).2 rfl hcap).1)
            exact hd
          · cases h
        · cases h

theorem cellPure_ok (hR : R F ρ S w P) (hR2 : R F ρ2 S2 w2 P) (hE : Ext ρ { S with floor := S.next } w ρ2 S2 w2) {n : Nat} {c c' : Cell} {v : Value} (h : cellPure (pureCell S2 S.next n) c = some c') (hc : CR F ρ2 S2 w2 P c v) : CR F ρ S w2 P c' v := by
  cases c with
  | s c =>
    simp only [cellPure, Option.map_eq_some_iff] at h
    obtain ⟨c1, h1, rfl⟩ := h
    exact pureCell_ok hR hR2 hE n c c1 v h1 hc
  | _ => simp [cellPure] at h

theorem pureVl_ok (hR : R F ρ S w P) (hR2 : R F ρ2 S2 w2 P) (hE : Ext ρ { S with floor := S.next } w ρ2 S2 w2) {x x' : Vl} {v : Value} (h : pureVl S2 S.next x = some x') (hv : VlR F ρ2 S2 w2 P x v) : VlR F ρ S w2 P x' v := by
  cases x with
  | one c =>
    simp only [pureVl] at h
    split at h
    · rename_i c' hc
      cases h
      exact cellPure_ok hR hR2 hE hc hv
    · cases h
  | agg cs =>
    simp only [pureVl] at h
    split at h
    · rename_i l hl
      cases h
      obtain ⟨a, e, ha⟩ := hv
      refine ⟨a, e, ?_⟩
      have hm := mapO_eq _ _ hl
      clear hl
      generalize a.toList = us at ha
      clear e
      induction cs generalizing l us with
      | nil => cases hm.nil_inv; cases ha.nil_inv; trivial
      | cons c cs ih =>
        obtain ⟨b, l', rfl, h1, h2⟩ := hm.cons_inv
        obtain ⟨u, us', rfl, h3, h4⟩ := ha.cons_inv
        exact ⟨cellPure_ok hR hR2 hE h1 h3, ih l' h2 us' h4⟩
    · cases h

theorem pureVls_ok (hR : R F ρ S w P) (hR2 : R F ρ2 S2 w2 P) (hE : Ext ρ { S with floor := S.next } w ρ2 S2 w2) {xs xs' : List Vl} {vs : List Value} (h : pureVls S2 S.next xs = some xs') (hv : All2 (VlR F ρ2 S2 w2 P) xs vs) : All2 (VlR F ρ S w2 P) xs' vs := by
  have hm := mapO_eq _ _ h
  clear h
  induction xs generalizing xs' vs with
  | nil => cases hm.nil_inv; cases hv.nil_inv; trivial
  | cons x xs ih =>
    obtain ⟨b, l', rfl, h1, h2⟩ := hm.cons_inv
    obtain ⟨u, us', rfl, h3, h4⟩ := hv.cons_inv
    exact ⟨pureVl_ok hR hR2 hE h1 h3, ih h4 h2⟩

end
end Go.Rf
