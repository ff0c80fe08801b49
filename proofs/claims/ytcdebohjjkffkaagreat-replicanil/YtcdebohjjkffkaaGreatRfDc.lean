/- Values and objects, told in a state that has other objects beside them. -/
import Derived.Test.YtcdebohjjkffkaaGreatRfDb
namespace Go.Rf
set_option linter.unusedVariables false
set_option linter.unusedSimpArgs false
open Go

section
variable {F F' : Fo} {ρ ρ' : Pl} {S S' S'' : St} {w w' : World} {P : Program} {N : Nat} {G : Option Nat}

/-- What one names the other names too, in the same places. -/
structure Tr (F : Fo) (ρ : Pl) (S : St) (F' : Fo) (ρ' : Pl) (S' : St) (w : World) : Prop where
  id : ∀ id, (ρ id).isSome = true → ρ' id = ρ id ∧ S'.get id = S.get id
  ro : ∀ b, Ro F ρ S w b → Ro F' ρ' S' w b

namespace Tr

theorem born (h : Tr F ρ S F' ρ' S' w) {id : Nat} (hb : (ρ id).isSome = true) : (ρ' id).isSome = true := by rw [(h.id id hb).1]; exact hb
theorem at_ (h : Tr F ρ S F' ρ' S' w) {id : Nat} (hb : (ρ id).isSome = true) : ρ'.at id = ρ.at id := by unfold Pl.at; rw [(h.id id hb).1]
theorem get (h : Tr F ρ S F' ρ' S' w) {id : Nat} (hb : (ρ id).isSome = true) : S'.get id = S.get id := (h.id id hb).2
theorem row (h : Tr F ρ S F' ρ' S' w) {id sz ver : Nat} (hb : (ρ id).isSome = true) (hr : rowOf S' id sz ver) : rowOf S id sz ver := by
  unfold rowOf at *; rw [h.get hb] at hr; exact hr

theorem vd (h : Tr F ρ S F' ρ' S' w) {d : Dat} {v : Value} (hd : VD w (Ro F ρ S w) d v) : VD w (Ro F' ρ' S' w) d v :=
  hd.mono fun b hb => ⟨h.ro b hb, rfl⟩

theorem c0 (h : Tr F ρ S F' ρ' S' w) {c : Cell0} {v : Value} (hc : C0 F ρ S w c v) : C0 F' ρ' S' w c v := by
  cases c with
  | d x => exact h.vd hc
  | ptr id ver off =>
    obtain ⟨hb, a, e, hp⟩ := hc
    exact ⟨h.born hb, a, e, fun sz ver' hr => by rw [h.at_ hb]; exact hp sz ver' (h.row hb hr)⟩
  | ro cs =>
    obtain ⟨b, off, vs, h1, h2, h3, h4⟩ := hc
    exact ⟨b, off, vs, h1, h2, fun hne => ⟨h.ro b (h3 hne).1, (h3 hne).2⟩, h4.mono fun _ _ hh => h.vd hh⟩
  | sl id ver off len cl =>
    obtain ⟨hb, a, cap, g1, g2, g3, hp⟩ := hc
    exact ⟨h.born hb, a, cap, g1, g2, g3, fun sz ver' hr => by rw [h.at_ hb]; exact hp sz ver' (h.row hb hr)⟩
  | mp id =>
    obtain ⟨hb, r, e, hp⟩ := hc
    exact ⟨h.born hb, r, e, fun o ho ht => by rw [h.at_ hb]; exact hp o (h.get hb ▸ ho) ht⟩
  | it id =>
    obtain ⟨hb, r, e, hp⟩ := hc
    exact ⟨h.born hb, r, e, fun o ho ht => by rw [h.at_ hb]; exact hp o (h.get hb ▸ ho) ht⟩

theorem v0 (h : Tr F ρ S F' ρ' S' w) {x : Vl0} {v : Value} (hc : V0 F ρ S w x v) : V0 F' ρ' S' w x v := by
  unfold V0 at *
  split
  · rename_i c h1 h2; simp only [h1, h2] at hc; exact h.c0 hc
  · rename_i hne
    split at hc
    · rename_i c h1 h2; exact absurd h2 (hne c h1)
    · obtain ⟨a, h1, h2⟩ := hc
      exact ⟨a, h1, h2.mono fun _ _ hh => h.c0 hh⟩

theorem cr (h : Tr F ρ S F' ρ' S' w) {c : Cell} {v : Value} (hc : CR F ρ S w P c v) : CR F' ρ' S' w P c v := by
  cases c with
  | s c => exact h.c0 hc
  | fn f g a b =>
    obtain ⟨x, y, h1, h2, h3, h4⟩ := hc
    exact ⟨x, y, h1, h2.mono fun _ _ hh => h.v0 hh, h3.mono fun _ _ hh => h.v0 hh, h4⟩
  | yld id =>
    obtain ⟨hb, r, e, hp⟩ := hc
    exact ⟨h.born hb, r, e, fun o ho ht => by rw [h.at_ hb]; exact hp o (h.get hb ▸ ho) ht⟩
  | ifc t a cs =>
    obtain ⟨u, h1, h2⟩ := hc
    exact ⟨u, h1, h.v0 h2⟩

theorem vl (h : Tr F ρ S F' ρ' S' w) {x : Vl} {v : Value} (hc : VlR F ρ S w P x v) : VlR F' ρ' S' w P x v := by
  cases x with
  | one c => exact h.cr hc
  | agg cs => obtain ⟨a, h1, h2⟩ := hc; exact ⟨a, h1, h2.mono fun _ _ hh => h.cr hh⟩

theorem ar (h : Tr F ρ S F' ρ' S' w) {x : AVal} {v : Value} (hc : AR F ρ S w P x v) : AR F' ρ' S' w P x v := by
  cases x with
  | v x => exact h.vl hc
  | tup l => obtain ⟨a, h1, h2⟩ := hc; exact ⟨a, h1, h2.mono fun _ _ hh => h.vl hh⟩
  | bad => trivial

theorem slr (h : Tr F ρ S F' ρ' S' w) {slots : PM AVal} {tmps : Array Value} (hc : SlR F ρ S w P slots tmps) : SlR F' ρ' S' w P slots tmps := fun t => h.ar (hc t)

theorem obr (h : Tr F ρ S F' ρ' S' w) {id : Nat} {o : AObj} (hb : (ρ id).isSome = true) (ho : ObR F ρ S w P id o) : ObR F' ρ' S' w P id o := by
  cases o with
  | row t sz ver cs =>
    obtain ⟨hz, c, e, lo, hi, pre, vs, post, h1, h2, h3, h4, h5⟩ := ho
    exact ⟨hz, c, e, lo, hi, pre, vs, post, by rw [h.at_ hb]; exact h1, h2, h3, by rw [h.at_ hb]; exact h4, h5.mono fun _ _ hh => h.cr hh⟩
  | fro sz ver els =>
    obtain ⟨hz, h1, h2, vs, h3, h4⟩ := ho
    exact ⟨hz, h1, by rw [h.at_ hb]; exact h.ro _ h2, vs, by rw [h.at_ hb]; exact h3, h4.mono fun _ _ hh => h.vd hh⟩
  | map k es clock =>
    obtain ⟨ms, h1, h2⟩ := ho
    exact ⟨ms, by rw [h.at_ hb]; exact h1, h2.mono fun _ _ hh => ⟨hh.1, hh.2.1, h.vl hh.2.2⟩⟩
  | mit m since seen stepped =>
    obtain ⟨sn, mb, h1, h2, h3, h4⟩ := ho
    exact ⟨sn, mb, h1, by rw [h.at_ hb]; exact h2, h3, fun i hi => ⟨h.born (h4 i hi).1, fun o ho ht => by rw [h.at_ (h4 i hi).1]; exact (h4 i hi).2 o (h.get (h4 i hi).1 ▸ ho) ht⟩⟩
  | sit s pos =>
    obtain ⟨b, h1, h2⟩ := ho
    exact ⟨b, h1, by rw [h.at_ hb]; exact h2⟩
  | lp st slots params assign body pending =>
    obtain ⟨fn, f, tmps, ps, ca, cb, pd, dfs, h1, h2, h3, h4, h5, h6, h7, h8⟩ := ho
    exact ⟨fn, f, tmps, ps, ca, cb, pd, dfs, by rw [h.at_ hb]; exact h1, h2, h3, h4, h5, h6, h.slr h7, h8⟩
  | dfb sh => show w.heap[(ρ'.at id).1]? = _; rw [h.at_ hb]; exact ho

end Tr

/-- The state with other objects beside. -/
theorem R.tr (hR : R F ρ S w P) (h : Tr F ρ S F' ρ' S' w) (hlt : ∀ id, (ρ' id).isSome = true → id < S'.next)
    (hnew : ∀ id o, S'.get id = some o → ρ id = none → (ρ' id).isSome = true ∧ ObR F' ρ' S' w P id o ∧ (o.own = true → F (ρ'.at id).1 ∧ ¬ F' (ρ'.at id).1))
    (hinj : ∀ id id' o o', S'.get id = some o → S'.get id' = some o' → ρ id = none → ρ id' = none → o.own = true → o'.own = true → (ρ'.at id).1 = (ρ'.at id').1 → id = id')
    (hF : ∀ b, F' b → F b) (hres : ∀ id, F'.ids id → ρ' id = none ∧ id < S'.next) : R F' ρ' S' w P where
  ob id o ho := by
    cases hb : ρ id with
    | none => exact ⟨(hnew id o ho hb).1, (hnew id o ho hb).2.1⟩
    | some p =>
      have hb : (ρ id).isSome = true := by rw [hb]; rfl
      exact ⟨h.born hb, h.obr hb (hR.ob id o (h.get hb ▸ ho)).2⟩
  lt := hlt
  inj id id' o o' h1 h2 h3 h4 he := by
    have old : ∀ {i x}, S'.get i = some x → x.own = true → (ρ i).isSome = true → ρ'.at i = ρ.at i ∧ S.get i = some x ∧ ¬ F (ρ.at i).1 := fun {i x} g1 g2 g3 =>
      ⟨h.at_ g3, h.get g3 ▸ g1, hR.away i x (h.get g3 ▸ g1) g2⟩
    cases hb : ρ id with
    | none =>
      cases hb' : ρ id' with
      | none => exact hinj id id' o o' h1 h2 hb hb' h3 h4 he
      | some p =>
        obtain ⟨k1, k2, k3⟩ := old h2 h4 (by rw [hb']; rfl)
        exact absurd (((hnew id o h1 hb).2.2 h3).1) (by rw [he, k1]; exact k3)
    | some p =>
      obtain ⟨k1, k2, k3⟩ := old h1 h3 (by rw [hb]; rfl)
      cases hb' : ρ id' with
      | none => exact absurd (((hnew id' o' h2 hb').2.2 h4).1) (by rw [← he, k1]; exact k3)
      | some p' =>
        obtain ⟨m1, m2, m3⟩ := old h2 h4 (by rw [hb']; rfl)
        exact hR.inj id id' o o' k2 m2 h3 h4 (by rw [← k1, ← m1]; exact he)
  away id o h1 h2 hf := by
    cases hb : ρ id with
    | none => exact ((hnew id o h1 hb).2.2 h2).2 hf
    | some p =>
      have hb : (ρ id).isSome = true := by rw [hb]; rfl
      exact hR.away id o (h.get hb ▸ h1) h2 (by rw [← h.at_ hb]; exact hF _ hf)
  flt b hb := hR.flt b (hF b hb)
  res := hres

/-- The same state, told otherwise; fewer foreign blocks and numbers. -/
theorem Tr.like (hF : ∀ b, F' b → F b) (hg : ∀ id, S'.get id = S.get id) : Tr F ρ S F' ρ S' w where
  id id _ := ⟨rfl, hg id⟩
  ro b h := ⟨h.1, fun ⟨i, o, h1, h2, h3⟩ => h.2.1 ⟨i, o, hg i ▸ h1, h2, h3⟩, fun hf => h.2.2 (hF b hf)⟩

theorem R.like (hR : R F ρ S w P) (hF : ∀ b, F' b → F b) (hI : ∀ id, F'.ids id → F.ids id) (hg : ∀ id, S'.get id = S.get id) (hn : S.next ≤ S'.next) : R F' ρ S' w P :=
  hR.tr (.like hF hg) (fun id h => Nat.lt_of_lt_of_le (hR.lt id h) hn)
    (fun id o ho hb => by have := (hR.ob id o (hg id ▸ ho)).1; rw [hb] at this; cases this)
    (fun id id' o o' h1 _ hb => by have := (hR.ob id o (hg id ▸ h1)).1; rw [hb] at this; cases this)
    hF (fun id h => ⟨(hR.res id (hI id h)).1, Nat.lt_of_lt_of_le (hR.res id (hI id h)).2 hn⟩)

theorem Ext.like (h : Ext ρ S w ρ' S' w') (hg : ∀ id, S''.get id = S'.get id) (hn : S''.next = S'.next) (hf : S''.floor = S'.floor) : Ext ρ S w ρ' S'' w' where
  size := h.size
  next := hn ▸ h.next
  born := h.born
  out b hb hno := ⟨fun ⟨i, o, h1, h2, h3⟩ => (h.out b hb hno).1 ⟨i, o, hg i ▸ h1, h2, h3⟩, (h.out b hb hno).2⟩
  ob id o' hb ho := h.ob id o' hb (hg id ▸ ho)
  flr := hf.trans h.flr
  low id hid := ⟨(hg id).trans (h.low id hid).1, (h.low id hid).2⟩
  calm := h.calm

/-! ## Another's new block -/

theorem push_get {o : Obj} (hh : w'.heap = w.heap.push o) {b : Nat} (hb : b < w.heap.size) : w'.heap[b]? = w.heap[b]? := by
  rw [hh, Array.getElem?_push, if_neg (by omega)]

theorem Ext.push (hR : R F ρ S w P) {o : Obj} (hh : w'.heap = w.heap.push o) (hc : Calm w w') : Ext ρ S w ρ S w' where
  size := by rw [hh, Array.size_push]; omega
  next := Nat.le_refl _
  born _ h := h
  out b hb hno := ⟨hno, push_get hh hb⟩
  ob _ o' _ ho := ⟨o', ho, o'.kin_refl, Nat.le_refl _, fun _ => ⟨rfl, SameRoom.congr (push_get hh (hR.block_lt ho))⟩⟩
  flr := rfl
  low _ _ := ⟨rfl, rfl, fun _ ho => push_get hh (hR.block_lt ho)⟩
  calm := hc

/-- A new block, foreign or not. -/
theorem Tr.push (hF : ∀ b, F' b → F b ∨ b = w.heap.size) : Tr F ρ S F' ρ S w where
  id _ _ := ⟨rfl, rfl⟩
  ro b h := ⟨h.1, h.2.1, fun hf => (hF b hf).elim h.2.2 fun e => Nat.lt_irrefl _ (e ▸ h.1)⟩

theorem SlR.push (hR : R F ρ S w P) {o : Obj} (hh : w'.heap = w.heap.push o) (hc : Calm w w') (hF : ∀ b, F' b → F b ∨ b = w.heap.size) {slots : PM AVal} {tmps : Array Value} (h : SlR F ρ S w P slots tmps) : SlR F' ρ S w' P slots tmps :=
  ((Tr.push hF).slr h).ext (Ext.push hR hh hc)

theorem R.push (hR : R F ρ S w P) {o : Obj} (hh : w'.heap = w.heap.push o) (hc : Calm w w') (hF : ∀ b, F' b → F b ∨ b = w.heap.size) (hI : ∀ id, F'.ids id → F.ids id) : R F' ρ S w' P where
  ob id o ho := ⟨(hR.ob id o ho).1, ObR.stay (Ext.push hR hh hc) ho ho (hR.ob id o ho).1 (fun _ => push_get hh (hR.block_lt ho)) ((Tr.push hF).obr (hR.ob id o ho).1 (hR.ob id o ho).2)⟩
  lt := hR.lt
  inj := hR.inj
  away id o h1 h2 hf := (hF _ hf).elim (hR.away id o h1 h2) fun e => Nat.lt_irrefl _ (e ▸ hR.block_lt h1)
  flt b hb := by
    rw [hh, Array.size_push]
    exact (hF b hb).elim (fun h => Nat.lt_succ_of_lt (hR.flt b h)) fun e => e ▸ Nat.lt_succ_self _
  res id h := hR.res id (hI id h)

end
end Go.Rf
