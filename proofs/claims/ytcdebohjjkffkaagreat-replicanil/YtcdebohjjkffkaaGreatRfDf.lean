/- Regions whose order is open do what the machine says. -/
import Derived.Test.YtcdebohjjkffkaaGreatRfDe
namespace Go.Rf
set_option linter.unusedVariables false
set_option linter.unusedSimpArgs false
open Go

open Classical in
/-- The places behind an effect: those of the left operations are as they were. -/
noncomputable def PB (ρ ρ' : Pl) (base len : Nat) (A0 : Nat → Bool) : Pl := fun id => if Hid base len A0 id then ρ id else ρ' id

theorem PB_hid {ρ ρ' : Pl} {base len : Nat} {A0 : Nat → Bool} {id : Nat} (h : Hid base len A0 id) : PB ρ ρ' base len A0 id = ρ id := by unfold PB; rw [if_pos h]
theorem PB_not {ρ ρ' : Pl} {base len : Nat} {A0 : Nat → Bool} {id : Nat} (h : ¬ Hid base len A0 id) : PB ρ ρ' base len A0 id = ρ' id := by unfold PB; rw [if_neg h]
theorem PB_at_hid {ρ ρ' : Pl} {base len : Nat} {A0 : Nat → Bool} {id : Nat} (h : Hid base len A0 id) : (PB ρ ρ' base len A0).at id = ρ.at id := by unfold Pl.at; rw [PB_hid h]
theorem PB_at_not {ρ ρ' : Pl} {base len : Nat} {A0 : Nat → Bool} {id : Nat} (h : ¬ Hid base len A0 id) : (PB ρ ρ' base len A0).at id = ρ'.at id := by unfold Pl.at; rw [PB_not h]

section
variable {P : Program} {F : Fo} {ρ ρ' : Pl} {base len : Nat} {A A0 A' : Nat → Bool} {Sk S' : St} {made : List Made} {w w' : World}

/-- What is known of an effect that was run with its own operations' objects alone, `A0`; `A`: those that are told ahead of it, `A'`: those behind it. -/
structure EffK (P : Program) (F : Fo) (ρ ρ' : Pl) (base len : Nat) (A A0 A' : Nat → Bool) (Sk S' : St) (made : List Made) (x : Nat) (w w' : World) : Prop where
  r0 : R (FA F ρ base len A0) (PA ρ base len A0) (withObjs Sk A0 made) w P
  r : R (FA F ρ base len A) (PA ρ base len A) (withObjs Sk A made) w P
  r' : R (FA F ρ base len A0) ρ' S' w' P
  e0 : Ext (PA ρ base len A0) (withObjs Sk A0 made) w ρ' S' w'
  sub : ∀ i, A0 i = true → A i = true
  app : ∀ i, A' i = true → A i = true ∨ i = x
  ppa : ∀ i, A i = true → A' i = true
  xA : A x = false
  xm : ∀ m ∈ made, m.idx ≠ x
  xb : ρ (base + x) = none
  dup : NodupI made
  mid : ∀ m ∈ made, m.id = base + m.idx ∧ m.idx < len
  nx : base + len ≤ Sk.next
  fl : Sk.floor ≤ base
  rs : ∀ id, F.ids id → id < base

/-- The objects that are left. -/
def leftM (A0 : Nat → Bool) (made : List Made) : List Made := made.filter fun m => !A0 m.idx

variable {x : Nat}

namespace EffK

theorem mem_left {m : Made} : m ∈ leftM A0 made ↔ m ∈ made ∧ A0 m.idx = false := by simp [leftM]

theorem sub' (h : EffK P F ρ ρ' base len A A0 A' Sk S' made x w w') : ∀ i, A0 i = true → A' i = true := fun i hi => h.ppa i (h.sub i hi)

theorem hid_of (h : EffK P F ρ ρ' base len A A0 A' Sk S' made x w w') {m : Made} (hm : m ∈ leftM A0 made) : Hid base len A0 m.id := by
  obtain ⟨h1, h2⟩ := mem_left.1 hm
  obtain ⟨h3, h4⟩ := h.mid m h1
  exact ⟨m.idx, h4, h2, h3⟩

theorem none' (h : EffK P F ρ ρ' base len A A0 A' Sk S' made x w w') {id : Nat} (hh : Hid base len A0 id) : ρ' id = none := by
  obtain ⟨j, h1, h2, rfl⟩ := hh
  exact (h.r'.res _ (.inr ⟨j, h1, h2, rfl⟩)).1

theorem getnone' (h : EffK P F ρ ρ' base len A A0 A' Sk S' made x w w') {id : Nat} (hh : Hid base len A0 id) : S'.get id = none := by
  cases hg : S'.get id with
  | none => rfl
  | some o => have := (h.r'.ob id o hg).1; rw [h.none' hh] at this; cases this

/-- Elsewhere the states with more objects are the states with fewer. -/
theorem getA (h : EffK P F ρ ρ' base len A A0 A' Sk S' made x w w') {id : Nat} (hh : ¬ Hid base len A0 id) : (withObjs Sk A made).get id = (withObjs Sk A0 made).get id := by
  refine withObjs_get_congr _ _ _ (fun m hm e => ?_) rfl
  obtain ⟨h3, h4⟩ := h.mid m hm
  have : A0 m.idx = true := by
    cases hb : A0 m.idx with
    | true => rfl
    | false => exact absurd ⟨m.idx, h4, hb, by omega⟩ hh
  rw [this, h.sub _ this]

theorem getA' (h : EffK P F ρ ρ' base len A A0 A' Sk S' made x w w') {id : Nat} (hh : ¬ Hid base len A0 id) : (withObjs S' A' (leftM A0 made)).get id = S'.get id :=
  withObjs_not _ _ _ fun m hm _ e => hh (e ▸ h.hid_of hm)

/-- What was left is there. -/
theorem left_inv (h : EffK P F ρ ρ' base len A A0 A' Sk S' made x w w') {id : Nat} {o : AObj} (hh : Hid base len A0 id) (ho : (withObjs S' A' (leftM A0 made)).get id = some o) :
    ∃ m ∈ leftM A0 made, A' m.idx = true ∧ A m.idx = true ∧ m.id = id ∧ o = m.ob ∧ (withObjs Sk A made).get id = some o := by
  rcases withObjs_inv (leftM A0 made) S' id o (List.Pairwise.filter _ h.dup) ho with ⟨m, h1, h2, h3, h4⟩ | ⟨_, h2⟩
  · have hm := (mem_left.1 h1).1
    have hA : A m.idx = true := (h.app _ h2).resolve_right (h.xm m hm)
    refine ⟨m, h1, h2, hA, h3, h4, ?_⟩
    rw [h4, ← h3]
    exact withObjs_get _ _ _ h.dup hm hA
  · rw [h.getnone' hh] at h2; cases h2

theorem PA0_A (h : EffK P F ρ ρ' base len A A0 A' Sk S' made x w w') {id : Nat} (hh : ¬ Hid base len A0 id) : PA ρ base len A id = PA ρ base len A0 id := by
  rw [PA_not hh, PA_not fun hA => hh (hA.mono h.sub)]

theorem PAB (h : EffK P F ρ ρ' base len A A0 A' Sk S' made x w w') {id : Nat} (hh : ¬ Hid base len A0 id) : PA (PB ρ ρ' base len A0) base len A' id = ρ' id := by
  rw [PA_not fun hA => hh (hA.mono h.sub'), PB_not hh]

/-- A left operation's place, ahead and behind. -/
theorem PAB_left (h : EffK P F ρ ρ' base len A A0 A' Sk S' made x w w') {id : Nat} (hh : Hid base len A0 id) (hA : (PA ρ base len A id).isSome = true) : PA (PB ρ ρ' base len A0) base len A' id = PA ρ base len A id := by
  obtain ⟨h1, h2⟩ := PA_some hA
  rw [h2, PA_not fun hA' => h1 (hA'.mono h.ppa), PB_hid hh]

theorem at_left (h : EffK P F ρ ρ' base len A A0 A' Sk S' made x w w') {id : Nat} (hh : Hid base len A0 id) (hA : (PA ρ base len A id).isSome = true) : (PA (PB ρ ρ' base len A0) base len A').at id = (PA ρ base len A).at id := by
  unfold Pl.at; rw [h.PAB_left hh hA]
theorem at_not (h : EffK P F ρ ρ' base len A A0 A' Sk S' made x w w') {id : Nat} (hh : ¬ Hid base len A0 id) : (PA (PB ρ ρ' base len A0) base len A').at id = ρ'.at id := by
  unfold Pl.at; rw [h.PAB hh]
theorem at_0A (h : EffK P F ρ ρ' base len A A0 A' Sk S' made x w w') {id : Nat} (hh : ¬ Hid base len A0 id) : (PA ρ base len A).at id = (PA ρ base len A0).at id := by
  unfold Pl.at; rw [h.PA0_A hh]

theorem own0 (h : EffK P F ρ ρ' base len A A0 A' Sk S' made x w w') {b : Nat} (ho : Own (PA ρ base len A0) (withObjs Sk A0 made) b) : Own (PA ρ base len A) (withObjs Sk A made) b := by
  obtain ⟨id, o, h1, h2, h3⟩ := ho
  have hn := (PA_some (h.r0.ob id o h1).1).1
  exact ⟨id, o, by rw [h.getA hn]; exact h1, h2, by rw [h.at_0A hn]; exact h3⟩

/-- A left object's block stays. -/
theorem block (h : EffK P F ρ ρ' base len A A0 A' Sk S' made x w w') {id : Nat} {o : AObj} (hh : Hid base len A0 id) (ho : (withObjs Sk A made).get id = some o) :
    w'.heap[((PA ρ base len A).at id).1]? = w.heap[((PA ρ base len A).at id).1]? ∧ ¬ Own ρ' S' ((PA ρ base len A).at id).1 := by
  have := h.e0.out ((PA ρ base len A).at id).1 (h.r.block_lt ho) (by
    rintro ⟨i, o', h1, h2, h3⟩
    have hn := (PA_some (h.r0.ob i o' h1).1).1
    have hne : id ≠ i := by rintro rfl; exact hn hh
    have h1' : (withObjs Sk A made).get i = some o' := by rw [h.getA hn]; exact h1
    rw [← h.at_0A hn] at h3
    exact h.r.apart h1' h2 ho hne h3.symm)
  exact ⟨this.2, this.1⟩

theorem ext (h : EffK P F ρ ρ' base len A A0 A' Sk S' made x w w') : Ext (PA ρ base len A) (withObjs Sk A made) w (PA (PB ρ ρ' base len A0) base len A') (withObjs S' A' (leftM A0 made)) w' where
  size := h.e0.size
  next := by
    have := h.e0.next
    rw [(withObjs_next _ _ _).1] at this ⊢
    rw [(withObjs_next _ _ _).1]; exact this
  born id hb := by
    by_cases hh : Hid base len A0 id
    · rw [h.PAB_left hh hb]; exact hb
    · rw [h.PAB hh]; exact h.e0.born id (by rw [← h.PA0_A hh]; exact hb)
  out b hb hno := by
    obtain ⟨k1, k2⟩ := h.e0.out b hb fun ho => hno (h.own0 ho)
    refine ⟨?_, k2⟩
    rintro ⟨id, o, h1, h2, h3⟩
    by_cases hh : Hid base len A0 id
    · obtain ⟨m, m1, m2, m3, m4, m5, m6⟩ := h.left_inv hh h1
      rw [h.at_left hh (h.r.ob id o m6).1] at h3
      exact hno ⟨id, o, m6, h2, h3⟩
    · rw [h.getA' hh] at h1
      rw [h.at_not hh] at h3
      exact k1 ⟨id, o, h1, h2, h3⟩
  ob id o' hb ho := by
    by_cases hh : Hid base len A0 id
    · obtain ⟨m, m1, m2, m3, m4, m5, m6⟩ := h.left_inv hh ho
      exact ⟨o', m6, o'.kin_refl, Nat.le_refl _, fun _ => ⟨h.at_left hh hb, SameRoom.congr (h.block hh m6).1⟩⟩
    · rw [h.getA' hh] at ho
      obtain ⟨o, k1, k2, k3, k4⟩ := h.e0.ob id o' (by rw [← h.PA0_A hh]; exact hb) ho
      refine ⟨o, by rw [h.getA hh]; exact k1, k2, k3, fun e => ?_⟩
      rw [h.at_not hh, h.at_0A hh]
      exact k4 e
  flr := by
    have := h.e0.flr
    rw [(withObjs_next _ _ _).2] at this ⊢
    rw [(withObjs_next _ _ _).2]; exact this
  low id hid := by
    have hh : ¬ Hid base len A0 id := by
      rintro ⟨j, _, _, rfl⟩
      rw [(withObjs_next _ _ _).2] at hid
      have := h.fl
      omega
    obtain ⟨k1, k2, k3⟩ := h.e0.low id (by rw [(withObjs_next _ _ _).2] at hid ⊢; exact hid)
    refine ⟨by rw [h.getA' hh, h.getA hh]; exact k1, by rw [h.PAB hh, h.PA0_A hh]; exact k2, fun o ho => ?_⟩
    rw [h.at_0A hh]
    rw [h.getA hh] at ho
    exact k3 o ho
  calm := h.e0.calm

theorem FAn (h : EffK P F ρ ρ' base len A A0 A' Sk S' made x w w') {b : Nat} (hb : FA F (PB ρ ρ' base len A0) base len A' b) : FA F ρ base len A b ∧ FA F ρ base len A0 b := by
  rcases hb with hb | ⟨j, h1, h2, h3, h4⟩
  · exact ⟨.inl hb, .inl hb⟩
  · have hA : A j = false := by
      cases hA : A j with
      | false => rfl
      | true => rw [h.ppa j hA] at h2; cases h2
    have hA0 : A0 j = false := by
      cases hA0 : A0 j with
      | false => rfl
      | true => rw [h.sub j hA0] at hA; cases hA
    have hh : Hid base len A0 (base + j) := ⟨j, h1, hA0, rfl⟩
    rw [PB_hid hh] at h3
    rw [PB_at_hid hh] at h4
    exact ⟨.inr ⟨j, h1, hA, h3, h4⟩, .inr ⟨j, h1, hA0, h3, h4⟩⟩

theorem tr (h : EffK P F ρ ρ' base len A A0 A' Sk S' made x w w') : Tr (FA F ρ base len A0) ρ' S' (FA F (PB ρ ρ' base len A0) base len A') (PA (PB ρ ρ' base len A0) base len A') (withObjs S' A' (leftM A0 made)) w' where
  id id hb := by
    have hh : ¬ Hid base len A0 id := fun hh => by rw [h.none' hh] at hb; cases hb
    exact ⟨h.PAB hh, h.getA' hh⟩
  ro b hb := by
    refine ⟨hb.1, ?_, fun hf => hb.2.2 (h.FAn hf).2⟩
    rintro ⟨id, o, h1, h2, h3⟩
    by_cases hh : Hid base len A0 id
    · obtain ⟨m, m1, m2, m3, m4, m5, m6⟩ := h.left_inv hh h1
      have hs := (h.r.ob id o m6).1
      rw [h.at_left hh hs] at h3
      obtain ⟨k1, k2⟩ := PA_some hs
      rw [PA_at k1] at h3
      rw [k2] at hs
      obtain ⟨j, j1, j2, rfl⟩ := hh
      exact hb.2.2 (.inr ⟨j, j1, j2, hs, h3.symm⟩)
    · rw [h.getA' hh] at h1
      rw [h.at_not hh] at h3
      exact hb.2.1 ⟨id, o, h1, h2, h3⟩

theorem rr (h : EffK P F ρ ρ' base len A A0 A' Sk S' made x w w') : R (FA F (PB ρ ρ' base len A0) base len A') (PA (PB ρ ρ' base len A0) base len A') (withObjs S' A' (leftM A0 made)) w' P := by
  have hnx : base + len ≤ S'.next := by
    have := h.e0.next
    rw [(withObjs_next _ _ _).1] at this
    exact Nat.le_trans h.nx this
  have hn' : (withObjs S' A' (leftM A0 made)).next = S'.next := (withObjs_next _ _ _).1
  have hid : ∀ id o, (withObjs S' A' (leftM A0 made)).get id = some o → ρ' id = none → Hid base len A0 id := by
    intro id o ho hn
    by_cases hh : Hid base len A0 id
    · exact hh
    · rw [h.getA' hh] at ho
      have := (h.r'.ob id o ho).1
      rw [hn] at this; cases this
  refine h.r'.tr h.tr (fun id hb => ?_) (fun id o ho hn => ?_) (fun id id' o o' h1 h2 hn hn' ho ho' he => ?_) (fun b hb => (h.FAn hb).2) (fun id hi => ?_)
  · rw [hn']
    by_cases hh : Hid base len A0 id
    · obtain ⟨j, j1, _, rfl⟩ := hh; omega
    · rw [h.PAB hh] at hb; exact h.r'.lt id hb
  · have hh := hid id o ho hn
    obtain ⟨m, m1, m2, m3, m4, m5, m6⟩ := h.left_inv hh ho
    obtain ⟨g1, g2⟩ := h.r.ob id o m6
    refine ⟨by rw [h.PAB_left hh g1]; exact g1, ?_, fun hown => ?_⟩
    · have := ObR.stay h.ext m6 ho g1 (fun _ => (h.block hh m6).1) g2
      exact (Tr.like (ρ := PA (PB ρ ρ' base len A0) base len A') (fun b hb => (h.FAn hb).1) (fun _ => rfl)).obr (by rw [h.PAB_left hh g1]; exact g1) this
    · rw [h.at_left hh g1]
      refine ⟨?_, fun hf => h.r.away id o m6 hown (h.FAn hf).1⟩
      obtain ⟨k1, k2⟩ := PA_some g1
      rw [PA_at k1]
      rw [k2] at g1
      obtain ⟨j, j1, j2, rfl⟩ := hh
      exact .inr ⟨j, j1, j2, g1, rfl⟩
  · have hh := hid id o h1 hn
    have hh' := hid id' o' h2 hn'
    obtain ⟨m, m1, m2, m3, m4, m5, m6⟩ := h.left_inv hh h1
    obtain ⟨n, n1, n2, n3, n4, n5, n6⟩ := h.left_inv hh' h2
    rw [h.at_left hh (h.r.ob id o m6).1, h.at_left hh' (h.r.ob id' o' n6).1] at he
    exact h.r.inj id id' o o' m6 n6 ho ho' he
  · rw [hn']
    rcases hi with hi | ⟨j, j1, j2, rfl⟩
    · have hlt := h.rs id hi
      have hh : ¬ Hid base len A0 id := by rintro ⟨j, _, _, rfl⟩; omega
      rw [h.PAB hh]
      exact h.r'.res id (.inl hi)
    · exact ⟨PA_hid ⟨j, j1, j2, rfl⟩, by omega⟩

end EffK
end

section
variable {P : Program} {N : Nat} {G : Option Nat} {ops : Array Oper} {F : Fo} {ρ0 : Pl} {S0 : St} {w0 : World} {L : List DOp} {base : Nat} {slots0 : PM AVal} {fr0 : Fr} {a0 : Act}
variable {pre : List DOp} {D : Dr} {val : Nat → AVal} {B Dn : Nat → Bool} {ρ : Pl} {a : Act} {w : World}

theorem rd_same {s s' : PM AVal} {x : AOper} (h : ∀ t ∈ x.named, s.get t = s'.get t) : ∀ y ∈ x.op.opds, rdS s y = rdS s' y :=
  rd_of fun t ht => by rw [h t (by simp [AOper.named, ht])]

theorem wanted_same {s s' : PM AVal} {x : AOper} (h : ∀ t ∈ x.named, s.get t = s'.get t) : wanted s x.guard = wanted s' x.guard := by
  unfold wanted
  cases hg : x.guard with
  | none => rfl
  | some tb =>
    obtain ⟨t, b⟩ := tb
    simp only
    rw [h t (by simp [AOper.named, hg])]

theorem Act.put_none_size {a : Act} {d : Option Nat} {u : Value} : (a.put d u).tmps.size = a.tmps.size := by
  cases d with
  | none => rfl
  | some d => simp [Act.put]

/-- What is made is not there yet. -/
theorem Inv.mnone (hL : LOk P N ops L) (hI : Inv P N F ρ0 S0 w0 L base slots0 fr0 a0 pre D val B Dn ρ a w) {rest : List DOp} (hLe : L = pre ++ rest) {m : Made} (hm : m ∈ D.made) : D.S.get m.id = none ∧ m.idx < L.length := by
  obtain ⟨e1, e2, y, e3, e4, _⟩ := hI.ev.made m hm
  have hlt : m.idx < L.length := by rw [← e4, hL.len]; exact hL.lt (by rw [hLe]; simp [e3])
  refine ⟨?_, hlt⟩
  have hr := hI.rel B hI.bdc hI.bd fun _ h => h
  cases hg : D.S.get m.id with
  | none => rfl
  | some o =>
    have : (withObjs D.S B D.made).get m.id = some o := by
      rw [withObjs_not]
      · exact hg
      · intro m' hm' hB e
        have := (hI.ev.made m' hm').2.1
        rw [hB] at this; cases this
    have := (hr.r.ob _ _ this).1
    rw [e1, PA_hid ⟨m.idx, hlt, e2, rfl⟩] at this
    cases this

/-- An operation without an effect, wherever it stands. -/
theorem quiet_step (hL : LOk P N ops L) (hI : Inv P N F ρ0 S0 w0 L base slots0 fr0 a0 pre D val B Dn ρ a w) {p q rest : List DOp} {x : DOp} (hpre : pre = p ++ x :: q) (hLe : L = pre ++ rest) (hxd : Dn x.idx = false)
    (hax : ∀ i, x.op.anc.testBit i = true → Dn i = true) {K : Act → World → Prop} {Q : Exit → Act → World → Prop}
    (hK : ∀ ρ' a' w', Inv P N F ρ0 S0 w0 L base slots0 fr0 a0 pre D val B (orN Dn x.idx) ρ' a' w' → K a' w') : wpOpIn (fence G) 0 P ops Q x.idx K a w := by
  have hx : L = p ++ x :: (q ++ rest) := by rw [hLe, hpre]; simp
  have hxp : x ∈ pre := by rw [hpre]; simp
  have hxL : x ∈ L := by rw [hx]; simp
  obtain ⟨o, ho, hco⟩ := hL.of x hxL
  obtain ⟨c1, c2, c3, c4, c5⟩ := compOper_inv hco
  have hdl := dstOk_lt c1
  rw [← c3] at hdl
  have hBx : B x.idx = false := by
    cases hb : B x.idx with
    | false => rfl
    | true => rw [hI.bd _ hb] at hxd; cases hxd
  have hfact := hI.ev.fact p x q hpre hBx
  have lk := fun (A : Nat → Bool) (hA : ∀ i, A i = true → Dn i = true) (ha : ∀ i, x.op.anc.testBit i = true → A i = true) (t : Nat) (ht : t ∈ x.op.named) => looks_same (val := val) (slots0 := slots0) hL hx hI.dc hxd hA ha ht
  have hD := hI.rel Dn hI.dc (fun _ h => h) hI.bd
  have hwant : ∀ b, wanted (wr (fun i => some (val i)) p slots0) x.op.guard = some b → Region.wanted o (yielded ops a.tmps) = b := fun b hb =>
    wanted_ok hD.s c5 (by rw [wanted_same (lk Dn (fun _ h => h) hax)]; exact hb)
  unfold wpOpIn
  rw [ho]
  simp only
  rcases hfact with ⟨h1, h2, h3⟩ | ⟨h1, h2⟩
  · rw [hwant false h1]
    simp only [Bool.false_eq_true, if_false]
    refine ⟨fun _ _ => trivial, ?_⟩
    rw [← c3]
    exact hK ρ _ _ (hI.same hL hx hxp hxd hax hdl h3 fun A _ _ _ _ => by rw [h2]; exact undef_ok)
  · rw [hwant true h1]
    simp only [if_true]
    rcases h2 with ⟨qo, k1, k2, _⟩ | ⟨m, ob, f, k1, k2, k3, k4⟩
    · have hq : compQ P o.op = some qo := by
        rcases compOp_inv c2 with ⟨q', e, hq⟩ | ⟨m, e, _⟩ | ⟨ee, e, _⟩ | ⟨e, _⟩ | ⟨c, t, as, e, _⟩ <;> rw [k1] at e <;> cases e
        exact hq
      -- what it yields where some are told
      have hev : ∀ A, DC L A → (∀ i, A i = true → Dn i = true) → (∀ i, B i = true → A i = true) → (∀ i, x.op.anc.testBit i = true → A i = true) →
          ∃ u, (execOp a.eval o).run P w = .ok (.value u) w ∧ AR (FA F ρ base L.length A) (PA ρ base L.length A) (withObjs D.S A D.made) w P (val x.idx) u := by
        intro A hA1 hA2 hA3 hA4
        have hr := hI.rel A hA1 hA2 hA3
        have hmono : (withObjs D.S x.op.anc.testBit D.made).Sub (withObjs D.S A D.made) := by
          intro id ob hob
          rcases withObjs_inv _ _ _ _ hI.ev.nodup hob with ⟨m, m1, m2, m3, m4⟩ | ⟨m1, m2⟩
          · rw [← m3, m4]; exact withObjs_get _ _ _ hI.ev.nodup m1 (hA4 _ m2)
          · rw [withObjs_not _ _ _ fun m g1 g2 g3 => by rw [← g3, (hI.mnone hL hLe g1).1] at m2; cases m2]; exact m2
        have hv := evQ_mono hmono k2
        rw [← evQ_congr (rd := rdS (wr (gA val Dn A) L slots0)) (fun y hy => rd_same (lk A hA2 hA4) y (by rw [k1]; exact hy))] at hv
        exact evQ_ok hr.r hr.s hq hv
      obtain ⟨u, hu, _⟩ := hev Dn hI.dc (fun _ h => h) hI.bd hax
      refine wp_value (compQ_defer hq) hu ?_
      rw [← c3]
      refine hK ρ _ _ (hI.same hL hx hxp hxd hax hdl (fun m hm e => ?_) fun A g1 g2 g3 g4 => ?_)
      · obtain ⟨_, _, y, e3, e4, mo, e5⟩ := hI.ev.made m hm
        have : y = x := hL.eq_of_idx (by rw [hLe]; simp [e3]) hxL (e4.trans e)
        subst this
        rw [k1] at e5; cases e5
      · obtain ⟨u', hu', hA⟩ := hev A g1 g2 g3 g4
        rw [hu] at hu'
        cases hu'
        exact hA
    · have hm : compM P o.op = some m := by
        rcases compOp_inv c2 with ⟨q', e, hq⟩ | ⟨m, e, hm⟩ | ⟨ee, e, _⟩ | ⟨e, _⟩ | ⟨c, t, as, e, _⟩ <;> rw [k1] at e <;> cases e
        exact hm
      have hxlt : x.idx < L.length := by rw [hL.len]; exact hL.lt hxL
      have hev : ∀ A, DC L A → (∀ i, A i = true → Dn i = true) → (∀ i, B i = true → A i = true) → (∀ i, x.op.anc.testBit i = true → A i = true) → ∀ F', R F' (PA ρ base L.length A) (withObjs D.S A D.made) w P → SlR F' (PA ρ base L.length A) (withObjs D.S A D.made) w P (wr (gA val Dn A) L slots0) a.tmps →
          Free F' (PA ρ base L.length A) (base + x.idx) → ∃ u w', (execOp a.eval o).run P w = .ok (.value u) w' ∧ MadeOk F' (PA ρ base L.length A) (withObjs D.S A D.made) w P (base + x.idx) (withObjs D.S A D.made).next ob f u w' := by
        intro A hA1 hA2 hA3 hA4 F' hR' hS' hfr
        refine evM_ok hR' hS' hm (h := ?_) hfr (Nat.le_refl _) ?_ ?_
        · rw [evM_congr (rd' := rdS (wr (fun i => some (val i)) p slots0)) (fun y hy => rd_same (lk A hA2 hA4) y (by rw [k1]; exact hy))]
          exact k2 _
        · rw [(withObjs_next _ _ _).1]; have := hI.nx; omega
        · rw [(withObjs_next _ _ _).2]; have := hI.fl; omega
      have hno : Free ⟨fun _ => False, fun _ => False⟩ (PA ρ base L.length Dn) (base + x.idx) := ⟨PA_hid ⟨x.idx, hxlt, hxd, rfl⟩, fun h => h⟩
      have htno : Tr (FA F ρ base L.length Dn) (PA ρ base L.length Dn) (withObjs D.S Dn D.made) ⟨fun _ => False, fun _ => False⟩ (PA ρ base L.length Dn) (withObjs D.S Dn D.made) w := .like (fun _ h => h.elim) fun _ => rfl
      obtain ⟨u, w', hu, hmk⟩ := hev Dn hI.dc (fun _ h => h) hI.bd hax ⟨fun _ => False, fun _ => False⟩ (hD.r.like (fun _ h => h.elim) (fun _ h => h.elim) (fun _ => rfl) (Nat.le_refl _)) (htno.slr hD.s) hno
      refine wp_value (compM_defer hm) hu ?_
      rw [← c3]
      refine hK _ _ _ (hI.makes hL hx hxp hxd hax hdl k4 k3 (fun A g1 g2 g3 g4 F' g5 g6 g7 => ?_) hmk.grow)
      obtain ⟨u', w'', hu', hmk'⟩ := hev A g1 g2 g3 g4 F' g5 g6 g7
      rw [hu] at hu'
      cases hu'
      exact hmk'

end
end Go.Rf
