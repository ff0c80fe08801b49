/- Slices that are shut, and append. -/
import Derived.Test.YtcdebohjjkffkaaGreatRfF
namespace Go.Rf
set_option linter.unusedVariables false
set_option linter.unusedSimpArgs false
open Go

section
variable {F : Fo} {ρ : Pl} {S : St} {w w1 : World} {P : Program}

/-! ## Shutting -/

theorem flatten_sub {α : Type} {sz : Nat} {els : List (List α)} (h : ∀ e ∈ els, e.length = sz) (off len : Nat) :
    ((els.drop off).take len).flatten = (els.flatten.drop (off * sz)).take (len * sz) := by
  rw [flatten_take len _ (fun e he => h e (List.mem_of_mem_drop he)), flatten_drop off _ h]

/-- A part of a frozen row is data. -/
theorem fro_part {ro : Nat → Prop} {sz off len b o cap : Nat} {a : Option Addr} {els : List (List Dat)} {vs : List Value} (h0 : 0 < sz) (hall : ∀ e ∈ els, e.length = sz) (hro : ro b)
    (hl : Lies w b o vs) (hv : All2 (VD w ro) els.flatten vs) (hle : len ≤ cap) (hlen : len ≤ els.length - off)
    (ha : 0 < cap → a = some ⟨b, o + off * sz, none⟩) : VD w ro (.sl ((els.drop off).take len) false) (.slice a len cap) := by
  have e1 : ((els.drop off).take len).length = len := by simp; omega
  have hvl := hv.length
  have hfl := flatten_len els hall
  have e2 := flatten_sub hall off len
  have := VD.sl (w := w) (ro := ro) ((els.drop off).take len) false a cap sz b (o + off * sz) ((vs.drop (off * sz)).take (len * sz)) (by omega) (fun h => by cases h)
    (fun e he => hall e (List.mem_of_mem_drop (List.mem_of_mem_take he))) (by rw [e2, List.length_take, List.length_take, List.length_drop, List.length_drop, hvl])
    (fun hne => by
      have hpos : 0 < len := by
        cases Nat.eq_zero_or_pos len with
        | inl h => subst h; simp at hne
        | inr h => exact h
      have hm : off * sz ≤ els.length * sz := Nat.mul_le_mul_right _ (by omega)
      exact ⟨ha (by omega), hro, (hl.drop _ (by omega)).take _⟩)
    (by
      rw [e2]
      intro k x v h1 h2
      exact ((hv.drop (off * sz)).take (len * sz)).get k x v h1 h2)
  rw [e1] at this
  exact this

theorem div_chunk {ds : List Dat} {sz : Nat} {els : List (List Dat)} (h : chunk sz (ds.length / sz) ds = some els) : ∀ e ∈ els, e.length = sz := (chunk_eq _ _ _ h).2.1

theorem shut1_ok (hR : R F ρ S w P) {c c' : Cell0} {S' : St} {v : Value} (h : shut1 S c = (S', c')) (hc : C0 F ρ S w c v) :
    R F ρ S' w P ∧ Ext ρ S w ρ S' w ∧ C0 F ρ S' w c' v := by
  have same : (S, c) = (S', c') → R F ρ S' w P ∧ Ext ρ S w ρ S' w ∧ C0 F ρ S' w c' v := by
    intro e; cases e; exact ⟨hR, Ext.refl _ _ _, hc⟩
  unfold shut1 at h
  split at h
  · rename_i id ver off len cl
    split at h
    · exact same h
    · rename_i hfl
      rw [ble_iff] at hfl
      split at h
      · rename_i t sz ver' cs hg
        split at h
        · rename_i ds hv hds hz
          rw [beq_iff] at hv; subst hv
          split at h
          · rename_i els hch
            split at h
            · rename_i l hl
              cases h
              obtain ⟨hz0, c, e, lo, hi, pre, vs, post, h1, h2, h3, h4, h5⟩ := (hR.ob _ _ hg).2
              have hb := (hR.ob _ _ hg).1
              have hE := Ext.shut hR hg (els := els) hfl
              have e1 := dats_eq _ _ hds
              obtain ⟨q1, q2, q3, q4⟩ := chunk_eq _ _ _ hch
              have hro : Ro F ρ (S.put id (.fro sz ver els)) w (ρ.at id).1 := by
                refine ⟨hR.block_lt hg, ?_, hR.away _ _ hg rfl⟩
                rintro ⟨j, o, j1, j2, j3⟩
                rw [St.get_put] at j1
                split at j1
                · cases j1; cases j2
                · rename_i hne
                  exact hR.apart hg rfl j1 hne j3
              have hlies : Lies w (ρ.at id).1 (ρ.at id).2 (vs.take els.flatten.length) := Lies.take ⟨c, e, (lo, hi), pre, post, h1, h3, h4⟩ _
              have hvd : All2 (VD w (Ro F ρ (S.put id (.fro sz ver els)) w)) els.flatten (vs.take els.flatten.length) := by
                rw [e1] at h5
                have h6 : All2 (VD w (Ro F ρ S w)) ds vs := (All2.map_left (f := dc)).1 h5
                have h7 : els.flatten = ds.take els.flatten.length := by
                  conv => lhs; rw [q3]
                  rw [q3, List.length_take]
                  rw [Nat.min_eq_left q4]
                conv => lhs; rw [h7]
                exact (h6.take _).mono fun _ _ hh => VD.ext hE hh
              refine ⟨R.shut hR hg hfl ⟨hz0, q2, hro, _, hlies, hvd⟩, hE, ?_⟩
              obtain ⟨_, a, cap, rfl, g1, g2, g3⟩ := hc
              obtain ⟨e5, e6⟩ := takeN_eq _ _ _ hl
              subst e5
              refine fro_part (sz := sz) (b := (ρ.at id).1) (o := (ρ.at id).2) hz0 q2 hro hlies hvd g1 (by rw [List.length_drop] at e6; exact e6) fun hcap => ((g3 sz ver (.inl ⟨t, cs, hg⟩)).2 rfl hcap).1
            · exact same h
          · exact same h
        · exact same h
      · rename_i sz ver' els hg
        split at h
        · rename_i hv
          rw [beq_iff] at hv; subst hv
          split at h
          · rename_i l hl
            cases h
            obtain ⟨hz0, q2, hro, vs, hlies, hvd⟩ := (hR.ob _ _ hg).2
            refine ⟨hR, Ext.refl _ _ _, ?_⟩
            obtain ⟨_, a, cap, rfl, g1, g2, g3⟩ := hc
            obtain ⟨e5, e6⟩ := takeN_eq _ _ _ hl
            subst e5
            exact fro_part (sz := sz) (b := (ρ.at id).1) (o := (ρ.at id).2) hz0 q2 hro hlies hvd g1 (by rw [List.length_drop] at e6; exact e6) fun hcap => ((g3 sz ver (.inr ⟨els, hg⟩)).2 rfl hcap).1
          · exact same h
        · exact same h
      · exact same h
  · rename_i els cl
    cases h
    refine ⟨hR, Ext.refl _ _ _, ?_⟩
    cases hc with
    | sl _ _ a cap sz b off vs hle hcl hsz hlen ha hv => exact VD.sl els false a cap sz b off vs hle (fun h => by cases h) hsz hlen ha hv
  · exact same h

theorem shutCells_ok : ∀ {cs cs' : List Cell} {S S' : St} {vs : List Value}, R F ρ S w P → shutCells S cs = (S', cs') → All2 (CR F ρ S w P) cs vs →
    R F ρ S' w P ∧ Ext ρ S w ρ S' w ∧ All2 (CR F ρ S' w P) cs' vs ∧ cs'.length = cs.length
  | [], cs', S, S', vs, hR, h, hv => by
    cases h; exact ⟨hR, Ext.refl _ _ _, hv, rfl⟩
  | c :: r, cs', S, S', vs, hR, h, hv => by
    obtain ⟨v, vs', rfl, h1, h2⟩ := hv.cons_inv
    have other : (∀ S, shutCells S (c :: r) = ((shutCells S r).1, c :: (shutCells S r).2)) → R F ρ S' w P ∧ Ext ρ S w ρ S' w ∧ All2 (CR F ρ S' w P) cs' (v :: vs') ∧ cs'.length = (c :: r).length := by
      intro e
      rw [e] at h
      cases hr : shutCells S r with
      | mk S2 r2 =>
        simp only [hr] at h
        cases h
        obtain ⟨q1, q2, q3, q4⟩ := shutCells_ok hR hr h2
        exact ⟨q1, q2, ⟨h1.ext q2, q3⟩, by simp [q4]⟩
    cases c with
    | s c =>
      cases hc : shut1 S c with
      | mk S1 c1 =>
        cases hr : shutCells S1 r with
        | mk S2 r2 =>
          simp only [shutCells, hc, hr] at h
          cases h
          obtain ⟨g1, g2, g3⟩ := shut1_ok hR hc h1
          obtain ⟨q1, q2, q3, q4⟩ := shutCells_ok g1 hr (h2.mono fun _ _ hh => hh.ext g2)
          exact ⟨q1, g2.trans q2, ⟨g3.ext q2, q3⟩, by simp [q4]⟩
    | fn f g l1 l2 => exact other fun _ => rfl
    | yld id => exact other fun _ => rfl
    | ifc t g l => exact other fun _ => rfl

theorem shutEls_ok {sz : Nat} : ∀ {l l' : List (List Cell)} {S S' : St} {vs : List Value}, R F ρ S w P → shutEls S l = (S', l') → All2 (CR F ρ S w P) l.flatten vs → (∀ e ∈ l, e.length = sz) →
    R F ρ S' w P ∧ Ext ρ S w ρ S' w ∧ All2 (CR F ρ S' w P) l'.flatten vs ∧ l'.length = l.length ∧ (∀ e ∈ l', e.length = sz)
  | [], l', S, S', vs, hR, h, hv, hl => by
    cases h; exact ⟨hR, Ext.refl _ _ _, hv, rfl, hl⟩
  | e :: r, l', S, S', vs, hR, h, hv, hl => by
    rw [List.flatten_cons] at hv
    obtain ⟨v1, v2, rfl, h1, h2⟩ := hv.append_inv
    cases he : shutCells S e with
    | mk S1 e1 =>
    cases hr : shutEls S1 r with
    | mk S2 r2 =>
    simp only [shutEls, he, hr] at h
    cases h
    obtain ⟨g1, g2, g3, g4⟩ := shutCells_ok hR he h1
    obtain ⟨q1, q2, q3, q4, q5⟩ := shutEls_ok g1 hr (h2.mono fun _ _ hh => hh.ext g2) (fun x hx => hl x (by simp [hx]))
    refine ⟨q1, g2.trans q2, ?_, by simp [q4], ?_⟩
    · rw [List.flatten_cons]; exact (g3.mono fun _ _ hh => hh.ext q2).append q3
    · intro x hx
      cases hx with
      | head => rw [g4]; exact hl e (by simp)
      | tail _ hx => exact q5 x hx

theorem shutVl_ok (hR : R F ρ S w P) {x x' : Vl} {S' : St} {v : Value} (h : shutVl S x = (S', x')) (hv : VlR F ρ S w P x v) :
    R F ρ S' w P ∧ Ext ρ S w ρ S' w ∧ VlR F ρ S' w P x' v := by
  unfold shutVl at h
  split at h
  · rename_i c
    split at h
    · rename_i S1 c1 hc
      cases h
      obtain ⟨g1, g2, g3, _⟩ := shutCells_ok (vs := [v]) hR hc ⟨hv, trivial⟩
      exact ⟨g1, g2, g3.1⟩
    · cases h; exact ⟨hR, Ext.refl _ _ _, hv⟩
  · rename_i cs
    split at h
    rename_i S1 c1 hc
    cases h
    obtain ⟨a, rfl, ha⟩ := hv
    obtain ⟨g1, g2, g3, _⟩ := shutCells_ok hR hc ha
    exact ⟨g1, g2, a, rfl, g3⟩

end
end Go.Rf
