/- A region whose order is open: the worlds of its orders, one operation behind the other. -/
import Derived.Test.YtcdebohjjkffkaaGreatRfDd
import Derived.OrdersIn
namespace Go.Rf
set_option linter.unusedVariables false
set_option linter.unusedSimpArgs false
open Go

/-! ## Some of the operations alone -/

/-- What is foreign where these operations alone are told. -/
def FA (F : Fo) (ρ : Pl) (base len : Nat) (A : Nat → Bool) : Fo :=
  ⟨fun b => F b ∨ ∃ j, j < len ∧ A j = false ∧ (ρ (base + j)).isSome = true ∧ b = (ρ.at (base + j)).1,
   fun id => F.ids id ∨ ∃ j, j < len ∧ A j = false ∧ id = base + j⟩

/-- Numbers of the other operations. -/
def Hid (base len : Nat) (A : Nat → Bool) (id : Nat) : Prop := ∃ j, j < len ∧ A j = false ∧ id = base + j

open Classical in
/-- The places without those of the other operations. -/
noncomputable def PA (ρ : Pl) (base len : Nat) (A : Nat → Bool) : Pl := fun id => if Hid base len A id then none else ρ id

section
variable {F : Fo} {ρ ρ' : Pl} {base len : Nat} {A A' : Nat → Bool}

theorem PA_hid {id : Nat} (h : Hid base len A id) : PA ρ base len A id = none := by unfold PA; rw [if_pos h]
theorem PA_not {id : Nat} (h : ¬ Hid base len A id) : PA ρ base len A id = ρ id := by unfold PA; rw [if_neg h]
theorem PA_some {id : Nat} (h : (PA ρ base len A id).isSome = true) : ¬ Hid base len A id ∧ PA ρ base len A id = ρ id := by
  by_cases hh : Hid base len A id
  · rw [PA_hid hh] at h; cases h
  · exact ⟨hh, PA_not hh⟩
theorem PA_at {id : Nat} (h : ¬ Hid base len A id) : (PA ρ base len A).at id = ρ.at id := by unfold Pl.at; rw [PA_not h]
theorem Hid.mono (h : ∀ i, A i = true → A' i = true) {id : Nat} (hh : Hid base len A' id) : Hid base len A id := by
  obtain ⟨j, h1, h2, h3⟩ := hh
  refine ⟨j, h1, ?_, h3⟩
  cases hA : A j with
  | false => rfl
  | true => rw [h j hA] at h2; cases h2
theorem hid_idx {j : Nat} (h : Hid base len A (base + j)) : A j = false := by
  obtain ⟨k, _, h2, h3⟩ := h
  have : k = j := by omega
  subst this; exact h2

end

/-- What these operations write; the others' temporaries are unknown. -/
def gA (val : Nat → AVal) (Dn A : Nat → Bool) : Nat → Option AVal := fun i => if A i = true then some (val i) else if Dn i = true then some .bad else none

theorem wr_put {P : Program} {N : Nat} {ops : Array Oper} {L : List DOp} (hL : LOk P N ops L) {p q : List DOp} {x : DOp} (hx : L = p ++ x :: q) {g g' : Nat → Option AVal} {v : AVal} {s : PM AVal}
    (hg' : g' x.idx = some v) (hne : ∀ o ∈ L, o.idx ≠ x.idx → g' o.idx = g o.idx) (hq : ∀ o ∈ q, ∀ t, x.op.dst = some t → o.op.dst = some t → g' o.idx = none) (t : Nat) :
    (wr g' L s).get t = (setDst (wr g L s) x.op.dst v).get t := by
  rw [setDst_get]
  by_cases hd : x.op.dst = some t
  · rw [if_pos hd, hx, wr_append]
    simp only [wr, hg']
    rw [wr_get_not q _ t fun o ho hot => hq o ho t hd hot, setDst_get, if_pos hd]
  · rw [if_neg hd]
    refine wr_congr L s s t (fun o ho hot => hne o ho fun e => ?_) rfl
    have : o = x := hL.eq_of_idx ho (by rw [hx]; simp) e
    subst this
    exact hd hot

section
variable {F : Fo} {ρ ρ' : Pl} {S S' : St} {w w' : World} {P : Program} {N : Nat} {G : Option Nat}

theorem SlR.congr {s s' : PM AVal} {tmps : Array Value} (h : ∀ t, s'.get t = s.get t) (hs : SlR F ρ S w P s tmps) : SlR F ρ S w P s' tmps := by
  intro t; rw [h t]; exact hs t

theorem SlR.put {s : PM AVal} {a : Act} (hs : SlR F ρ S w P s a.tmps) {d : Option Nat} {v : AVal} {u : Value} (hd : ∀ t, d = some t → t < N) (hn : N ≤ a.tmps.size) (hv : AR F ρ S w P v u) :
    SlR F ρ S w P (setDst s d v) (a.put d u).tmps ∧ N ≤ (a.put d u).tmps.size := by
  cases d with
  | none => exact ⟨hs, hn⟩
  | some d =>
    have := hd d rfl
    exact ⟨hs.set (by omega) hv, by simp only [Act.put, Array.size_setIfInBounds]; exact hn⟩

theorem put_defers (a : Act) (d : Option Nat) (u : Value) : (a.put d u).defers = a.defers := by cases d <;> rfl

end

theorem withObjs_get_congr {p q : Nat → Bool} {id : Nat} : ∀ (l : List Made) (S S' : St), (∀ m ∈ l, m.id = id → p m.idx = q m.idx) → S.get id = S'.get id → (withObjs S p l).get id = (withObjs S' q l).get id
  | [], _, _, _, h => h
  | m :: r, S, S', h, hs => by
    have hr : ∀ m' ∈ r, m'.id = id → p m'.idx = q m'.idx := fun m' hm' => h m' (by simp [hm'])
    simp only [withObjs]
    by_cases e : m.id = id
    · rw [h m (by simp) e]
      split
      · exact withObjs_get_congr r _ _ hr (by rw [St.get_put, St.get_put, hs])
      · exact withObjs_get_congr r _ _ hr hs
    · have h1 : (S.put m.id m.ob).get id = S.get id := St.get_put_ne _ _ (Ne.symm e)
      have h2 : (S'.put m.id m.ob).get id = S'.get id := St.get_put_ne _ _ (Ne.symm e)
      split <;> split <;> exact withObjs_get_congr r _ _ hr (by simp only [h1, h2, hs])

/-- The world stands for these operations alone. -/
structure Rel (P : Program) (F : Fo) (ρ0 : Pl) (S0 : St) (w0 : World) (L : List DOp) (base : Nat) (slots0 : PM AVal) (Sk : St) (made : List Made) (val : Nat → AVal) (Dn : Nat → Bool) (ρ : Pl) (tmps : Array Value) (w : World) (A : Nat → Bool) : Prop where
  r : R (FA F ρ base L.length A) (PA ρ base L.length A) (withObjs Sk A made) w P
  e : Ext ρ0 S0 w0 (PA ρ base L.length A) (withObjs Sk A made) w
  s : SlR (FA F ρ base L.length A) (PA ρ base L.length A) (withObjs Sk A made) w P (wr (gA val Dn A) L slots0) tmps

/-- All that stands while the region is done. -/
structure Inv (P : Program) (N : Nat) (F : Fo) (ρ0 : Pl) (S0 : St) (w0 : World) (L : List DOp) (base : Nat) (slots0 : PM AVal) (fr0 : Fr) (a0 : Act) (pre : List DOp) (D : Dr) (val : Nat → AVal) (B Dn : Nat → Bool) (ρ : Pl) (a : Act) (w : World) : Prop where
  ev : Ev base slots0 fr0 pre D val B
  pre : ∀ i, Dn i = true → ∃ x ∈ pre, x.idx = i
  dc : DC L Dn
  bd : ∀ i, B i = true → Dn i = true
  bdc : DC L B
  born : ∀ j, j < L.length → (ρ (base + j)).isSome = true → Dn j = true
  nx : base + L.length ≤ D.S.next
  fl : D.S.floor ≤ base
  rs : ∀ id, F.ids id → id < base
  sz : N ≤ a.tmps.size
  df : a.defers = a0.defers
  rel : ∀ A, DC L A → (∀ i, A i = true → Dn i = true) → (∀ i, B i = true → A i = true) → Rel P F ρ0 S0 w0 L base slots0 D.S D.made val Dn ρ a.tmps w A

def andN (A : Nat → Bool) (n : Nat) : Nat → Bool := fun i => A i && !(i == n)
def orN (A : Nat → Bool) (n : Nat) : Nat → Bool := fun i => A i || i == n

theorem andN_true {A : Nat → Bool} {n i : Nat} : andN A n i = true ↔ A i = true ∧ i ≠ n := by simp [andN]
theorem orN_true {A : Nat → Bool} {n i : Nat} : orN A n i = true ↔ A i = true ∨ i = n := by simp [orN]

section
variable {P : Program} {N : Nat} {G : Option Nat} {ops : Array Oper} {F : Fo} {ρ0 : Pl} {S0 : St} {w0 : World} {L : List DOp} {base : Nat} {slots0 : PM AVal} {fr0 : Fr} {a0 : Act}
variable {pre : List DOp} {D : Dr} {val : Nat → AVal} {B Dn : Nat → Bool} {ρ : Pl} {a : Act} {w : World}

/-- What an operation looks at is the same in each order. -/
theorem looks_same (hL : LOk P N ops L) {p q : List DOp} {x : DOp} (hx : L = p ++ x :: q) (hdc : DC L Dn) (hxd : Dn x.idx = false) {A : Nat → Bool} (hA : ∀ i, A i = true → Dn i = true)
    (hax : ∀ i, x.op.anc.testBit i = true → A i = true) {t : Nat} (ht : t ∈ x.op.named) : (wr (gA val Dn A) L slots0).get t = (wr (fun i => some (val i)) p slots0).get t := by
  have hxL : x ∈ L := by rw [hx]; simp
  have nD : ∀ {i}, Dn i = false → gA val Dn A i = none := by
    intro i h
    unfold gA
    cases hAi : A i with
    | true => rw [hA i hAi] at h; cases h
    | false => simp [h]
  have hnd : ∀ o ∈ L, o.op.anc.testBit x.idx = true → Dn o.idx = false := by
    intro o ho h
    cases hd : Dn o.idx with
    | false => rfl
    | true => rw [hdc o ho hd _ h] at hxd; cases hxd
  rw [hx, wr_append]
  rw [wr_get_not (x :: q)]
  · refine wr_congr p _ _ t (fun o ho hot => ?_) rfl
    have hoL : o ∈ L := by rw [hx]; simp [ho]
    rcases hL.ord x hxL o hoL t hot ht with h | h | h
    · exact absurd h.symm (hL.dup p x q hx o ho)
    · unfold gA; rw [if_pos (hax _ h)]
    · obtain ⟨p1, p2, rfl⟩ := List.append_of_mem ho
      rw [hL.not_anc (p := p1) (q := p2 ++ x :: q) (x := o) (y := x) (by rw [hx]; simp) (.inr (by simp))] at h
      cases h
  · intro o ho hot
    have hoL : o ∈ L := by rw [hx]; exact List.mem_append_right _ ho
    rcases List.mem_cons.1 ho with rfl | ho
    · exact nD hxd
    · rcases hL.ord x hxL o hoL t hot ht with h | h | h
      · rw [← h]; exact nD hxd
      · rw [hL.not_anc hx (.inr ho)] at h; cases h
      · exact nD (hnd o hoL h)

theorem dc_and (hL : LOk P N ops L) (hdc : DC L Dn) {n : Nat} (hn : Dn n = false) {A' : Nat → Bool} (hA' : DC L A') (hsub : ∀ i, A' i = true → orN Dn n i = true) : DC L (andN A' n) ∧ ∀ i, andN A' n i = true → Dn i = true := by
  have h2 : ∀ i, andN A' n i = true → Dn i = true := fun i h => by
    obtain ⟨h1, h3⟩ := andN_true.1 h
    exact (orN_true.1 (hsub i h1)).resolve_right h3
  refine ⟨fun y hy hA i hi => ?_, h2⟩
  have hd := hdc y hy (h2 _ hA) i hi
  exact andN_true.2 ⟨hA' y hy (andN_true.1 hA).1 i hi, fun e => by rw [e, hn] at hd; cases hd⟩

theorem dc_or (hdc : DC L Dn) (hL : LOk P N ops L) {x : DOp} (hxL : x ∈ L) (hax : ∀ i, x.op.anc.testBit i = true → Dn i = true) : DC L (orN Dn x.idx) := by
  intro y hy h i hi
  rcases orN_true.1 h with h | h
  · exact orN_true.2 (.inl (hdc y hy h i hi))
  · rw [hL.eq_of_idx hy hxL h] at hi
    exact orN_true.2 (.inl (hax i hi))

/-- What is written behind an operation. -/
theorem wr_or (hL : LOk P N ops L) {p q : List DOp} {x : DOp} (hx : L = p ++ x :: q) (hdc : DC L Dn) (hxd : Dn x.idx = false) {A' : Nat → Bool} (hA' : ∀ i, A' i = true → orN Dn x.idx i = true) (t : Nat) :
    (wr (gA val (orN Dn x.idx) A') L slots0).get t = (setDst (wr (gA val Dn (andN A' x.idx)) L slots0) x.op.dst (if A' x.idx = true then val x.idx else .bad)).get t := by
  have hxL : x ∈ L := by rw [hx]; simp
  refine wr_put hL hx ?_ ?_ ?_ t
  · unfold gA
    split
    · rfl
    · rw [if_pos (orN_true.2 (.inr rfl))]
  · intro o _ hne
    have e1 : andN A' x.idx o.idx = A' o.idx := by simp [andN, hne]
    have e2 : orN Dn x.idx o.idx = Dn o.idx := by simp [orN, hne]
    unfold gA
    rw [e1, e2]
  · intro o ho d hd hod
    have hoL : o ∈ L := by rw [hx]; simp [ho]
    have hne : o.idx ≠ x.idx := fun e => by
      obtain ⟨q1, q2, rfl⟩ := List.append_of_mem ho
      exact hL.dup (p ++ x :: q1) o q2 (by rw [hx]; simp) x (by simp) e.symm
    have hnd : Dn o.idx = false := by
      rcases hL.ord x hxL o hoL d hod (by simp [AOper.named, hd]) with h | h | h
      · exact absurd h.symm hne
      · rw [hL.not_anc hx (.inr ho)] at h; cases h
      · cases hdo : Dn o.idx with
        | false => rfl
        | true => rw [hdc o hoL hdo _ h] at hxd; cases hxd
    unfold gA
    have h1 : A' o.idx = false := by
      cases hA : A' o.idx with
      | false => rfl
      | true => rcases orN_true.1 (hA' _ hA) with h | h
                · rw [hnd] at h; cases h
                · exact absurd h hne
    rw [h1]
    simp [orN, hnd, hne]

theorem wr_and_false {A' : Nat → Bool} {n : Nat} (h : A' n = false) : andN A' n = A' := by
  funext i
  simp only [andN]
  by_cases e : i = n
  · subst e; simp [h]
  · simp [e]

/-- An operation that makes nothing. -/
theorem Inv.same (hL : LOk P N ops L) (hI : Inv P N F ρ0 S0 w0 L base slots0 fr0 a0 pre D val B Dn ρ a w) {p q : List DOp} {x : DOp} (hx : L = p ++ x :: q) (hxp : x ∈ pre) (hxd : Dn x.idx = false)
    (hax : ∀ i, x.op.anc.testBit i = true → Dn i = true) (hdst : ∀ t, x.op.dst = some t → t < N) (hm : ∀ m ∈ D.made, m.idx ≠ x.idx) {u : Value}
    (hv : ∀ A, DC L A → (∀ i, A i = true → Dn i = true) → (∀ i, B i = true → A i = true) → (∀ i, x.op.anc.testBit i = true → A i = true) → AR (FA F ρ base L.length A) (PA ρ base L.length A) (withObjs D.S A D.made) w P (val x.idx) u) :
    Inv P N F ρ0 S0 w0 L base slots0 fr0 a0 pre D val B (orN Dn x.idx) ρ (a.put x.op.dst u) w := by
  have hxL : x ∈ L := by rw [hx]; simp
  refine ⟨hI.ev, fun i hi => ?_, dc_or hI.dc hL hxL hax, fun i hi => orN_true.2 (.inl (hI.bd i hi)), hI.bdc, fun j hj hb => orN_true.2 (.inl (hI.born j hj hb)), hI.nx, hI.fl, hI.rs, ?_, (put_defers _ _ _).trans hI.df, ?_⟩
  · rcases orN_true.1 hi with h | h
    · exact hI.pre i h
    · exact ⟨x, hxp, h.symm⟩
  · cases hd : x.op.dst with
    | none => exact hI.sz
    | some d => simp only [Act.put, Array.size_setIfInBounds]; exact hI.sz
  · intro A' hdc' hsub hB
    obtain ⟨k1, k2⟩ := dc_and hL hI.dc hxd hdc' hsub
    have hBx : ∀ i, B i = true → andN A' x.idx i = true := fun i hi => andN_true.2 ⟨hB i hi, fun e => by have := hI.bd i hi; rw [e, hxd] at this; cases this⟩
    have hr := hI.rel _ k1 k2 hBx
    have hwr := wr_or (val := val) (slots0 := slots0) hL hx hI.dc hxd hsub
    cases hA : A' x.idx with
    | false =>
      rw [wr_and_false hA] at hr
      refine ⟨hr.r, hr.e, SlR.congr hwr ?_⟩
      rw [hA, wr_and_false hA]
      exact (hr.s.put (v := .bad) hdst hI.sz trivial).1
    | true =>
      have hw : withObjs D.S A' D.made = withObjs D.S (andN A' x.idx) D.made := withObjs_congr _ _ fun m hmm => by simp [andN, hm m hmm]
      have hF : ∀ b, FA F ρ base L.length A' b → FA F ρ base L.length (andN A' x.idx) b := fun b h => by
        rcases h with h | ⟨j, h1, h2, h3⟩
        · exact .inl h
        · exact .inr ⟨j, h1, by simp [andN, h2], h3⟩
      have hI' : ∀ id, (FA F ρ base L.length A').ids id → (FA F ρ base L.length (andN A' x.idx)).ids id := fun b h => by
        rcases h with h | ⟨j, h1, h2, h3⟩
        · exact .inl h
        · exact .inr ⟨j, h1, by simp [andN, h2], h3⟩
      have hP : PA ρ base L.length A' = PA ρ base L.length (andN A' x.idx) := by
        funext id
        by_cases h : Hid base L.length A' id
        · rw [PA_hid h, PA_hid (h.mono fun i hi => (andN_true.1 hi).1)]
        · rw [PA_not h]
          by_cases h' : Hid base L.length (andN A' x.idx) id
          · rw [PA_hid h']
            obtain ⟨j, h1, h2, rfl⟩ := h'
            have : j = x.idx := by
              cases hAj : A' j with
              | false => exact absurd ⟨j, h1, hAj, rfl⟩ h
              | true => simpa [andN, hAj] using h2
            subst this
            cases hb : ρ (base + x.idx) with
            | none => rfl
            | some p => have := hI.born x.idx h1 (by rw [hb]; rfl); rw [hxd] at this; cases this
          · rw [PA_not h']
      have ht : Tr (FA F ρ base L.length (andN A' x.idx)) (PA ρ base L.length (andN A' x.idx)) (withObjs D.S (andN A' x.idx) D.made) (FA F ρ base L.length A') (PA ρ base L.length (andN A' x.idx)) (withObjs D.S (andN A' x.idx) D.made) w := .like hF fun _ => rfl
      refine ⟨?_, ?_, ?_⟩
      · rw [hP, hw]; exact hr.r.like hF hI' (fun _ => rfl) (Nat.le_refl _)
      · rw [hP, hw]; exact hr.e
      · rw [hP, hw]
        refine SlR.congr hwr ?_
        rw [hA, if_pos rfl]
        refine ((ht.slr hr.s).put hdst hI.sz (ht.ar (hv _ k1 k2 hBx fun i hi => ?_))).1
        have hnx : i ≠ x.idx := fun e => by have := hax i hi; rw [e, hxd] at this; cases this
        exact andN_true.2 ⟨hdc' x hxL hA i hi, hnx⟩

set_option maxHeartbeats 1000000 in
/-- An operation that makes an object. -/
theorem Inv.makes (hL : LOk P N ops L) (hI : Inv P N F ρ0 S0 w0 L base slots0 fr0 a0 pre D val B Dn ρ a w) {p q : List DOp} {x : DOp} (hx : L = p ++ x :: q) (hxp : x ∈ pre) (hxd : Dn x.idx = false)
    (hax : ∀ i, x.op.anc.testBit i = true → Dn i = true) (hdst : ∀ t, x.op.dst = some t → t < N) {ob : AObj} {f : MV} (hm : ⟨x.idx, base + x.idx, ob⟩ ∈ D.made) (hval : val x.idx = f.val (base + x.idx)) {u : Value} {w' : World}
    (hv : ∀ A, DC L A → (∀ i, A i = true → Dn i = true) → (∀ i, B i = true → A i = true) → (∀ i, x.op.anc.testBit i = true → A i = true) → ∀ F', R F' (PA ρ base L.length A) (withObjs D.S A D.made) w P → SlR F' (PA ρ base L.length A) (withObjs D.S A D.made) w P (wr (gA val Dn A) L slots0) a.tmps →
      Free F' (PA ρ base L.length A) (base + x.idx) → MadeOk F' (PA ρ base L.length A) (withObjs D.S A D.made) w P (base + x.idx) (withObjs D.S A D.made).next ob f u w') (hgrow : ∃ o, w'.heap = w.heap.push o ∧ Calm w w') :
    Inv P N F ρ0 S0 w0 L base slots0 fr0 a0 pre D val B (orN Dn x.idx) (ρ.new (base + x.idx) (w.heap.size, 0)) (a.put x.op.dst u) w' := by
  have hxL : x ∈ L := by rw [hx]; simp
  have hxlt : x.idx < L.length := by rw [hL.len]; exact hL.lt hxL
  have hnone : ρ (base + x.idx) = none := by
    cases hb : ρ (base + x.idx) with
    | none => rfl
    | some p => have := hI.born x.idx hxlt (by rw [hb]; rfl); rw [hxd] at this; cases this
  have hnew : ∀ {j}, j ≠ x.idx → (ρ.new (base + x.idx) (w.heap.size, 0)) (base + j) = ρ (base + j) := fun h => Pl.new_ne _ _ (by omega)
  have hnewat : ∀ {j}, j ≠ x.idx → (ρ.new (base + x.idx) (w.heap.size, 0)).at (base + j) = ρ.at (base + j) := fun h => Pl.at_new_ne _ _ (by omega)
  obtain ⟨o, hgrow, hcalm⟩ := hgrow
  refine ⟨hI.ev, fun i hi => ?_, dc_or hI.dc hL hxL hax, fun i hi => orN_true.2 (.inl (hI.bd i hi)), hI.bdc, fun j hj hb => ?_, hI.nx, hI.fl, hI.rs, ?_, (put_defers _ _ _).trans hI.df, ?_⟩
  · rcases orN_true.1 hi with h | h
    · exact hI.pre i h
    · exact ⟨x, hxp, h.symm⟩
  · by_cases e : j = x.idx
    · exact orN_true.2 (.inr e)
    · rw [hnew e] at hb; exact orN_true.2 (.inl (hI.born j hj hb))
  · cases hd : x.op.dst with
    | none => exact hI.sz
    | some d => simp only [Act.put, Array.size_setIfInBounds]; exact hI.sz
  · intro A' hdc' hsub hB
    obtain ⟨k1, k2⟩ := dc_and hL hI.dc hxd hdc' hsub
    have hBx : ∀ i, B i = true → andN A' x.idx i = true := fun i hi => andN_true.2 ⟨hB i hi, fun e => by have := hI.bd i hi; rw [e, hxd] at this; cases this⟩
    have hr := hI.rel _ k1 k2 hBx
    have hwr := wr_or (val := val) (slots0 := slots0) hL hx hI.dc hxd hsub
    cases hA : A' x.idx with
    | false =>
      rw [wr_and_false hA] at hr
      have hP : PA (ρ.new (base + x.idx) (w.heap.size, 0)) base L.length A' = PA ρ base L.length A' := by
        funext id
        by_cases h : Hid base L.length A' id
        · rw [PA_hid h, PA_hid h]
        · rw [PA_not h, PA_not h, Pl.new_ne]
          rintro rfl
          exact h ⟨x.idx, hxlt, hA, rfl⟩
      have hF : ∀ b, FA F (ρ.new (base + x.idx) (w.heap.size, 0)) base L.length A' b → FA F ρ base L.length A' b ∨ b = w.heap.size := by
        intro b h
        rcases h with h | ⟨j, h1, h2, h3, h4⟩
        · exact .inl (.inl h)
        · by_cases e : j = x.idx
          · subst e; rw [Pl.at_new_self] at h4; exact .inr h4
          · rw [hnew e] at h3; rw [hnewat e] at h4; exact .inl (.inr ⟨j, h1, h2, h3, h4⟩)
      refine ⟨?_, ?_, ?_⟩
      · rw [hP]; exact hr.r.push hgrow hcalm hF fun _ h => h
      · rw [hP]; exact hr.e.trans (Ext.push hr.r hgrow hcalm)
      · rw [hP]
        refine SlR.congr hwr ?_
        rw [hA, wr_and_false hA]
        exact ((SlR.push hr.r hgrow hcalm hF hr.s).put (v := .bad) hdst hI.sz trivial).1
    | true =>
      have hnx : ∀ i, x.op.anc.testBit i = true → andN A' x.idx i = true := fun i hi =>
        andN_true.2 ⟨hdc' x hxL hA i hi, fun e => by have := hax i hi; rw [e, hxd] at this; cases this⟩
      have hF : ∀ b, FA F ρ base L.length A' b → FA F ρ base L.length (andN A' x.idx) b := fun b h => by
        rcases h with h | ⟨j, h1, h2, h3⟩
        · exact .inl h
        · exact .inr ⟨j, h1, by simp [andN, h2], h3⟩
      have hI' : ∀ id, (FA F ρ base L.length A').ids id → (FA F ρ base L.length (andN A' x.idx)).ids id := fun b h => by
        rcases h with h | ⟨j, h1, h2, h3⟩
        · exact .inl h
        · exact .inr ⟨j, h1, by simp [andN, h2], h3⟩
      have ht : Tr (FA F ρ base L.length (andN A' x.idx)) (PA ρ base L.length (andN A' x.idx)) (withObjs D.S (andN A' x.idx) D.made) (FA F ρ base L.length A') (PA ρ base L.length (andN A' x.idx)) (withObjs D.S (andN A' x.idx) D.made) w := .like hF fun _ => rfl
      have hR1 := hr.r.like hF hI' (fun _ => rfl) (Nat.le_refl _)
      have hS1 := ht.slr hr.s
      have hhid : Hid base L.length (andN A' x.idx) (base + x.idx) := ⟨x.idx, hxlt, by simp [andN], rfl⟩
      have hfree : Free (FA F ρ base L.length A') (PA ρ base L.length (andN A' x.idx)) (base + x.idx) := by
        refine ⟨PA_hid hhid, fun h => ?_⟩
        rcases h with h | ⟨j, _, h2, h3⟩
        · have := hI.rs _ h
          omega
        · have : j = x.idx := by omega
          subst this
          rw [hA] at h2; cases h2
      have hmk := hv _ k1 k2 hBx hnx _ hR1 hS1 hfree
      have hP : PA (ρ.new (base + x.idx) (w.heap.size, 0)) base L.length A' = (PA ρ base L.length (andN A' x.idx)).new (base + x.idx) (w.heap.size, 0) := by
        funext id
        by_cases e : id = base + x.idx
        · subst e
          rw [Pl.new_self, PA_not (fun h => by rw [hid_idx h] at hA; cases hA), Pl.new_self]
        · rw [Pl.new_ne _ _ e]
          by_cases h : Hid base L.length A' id
          · rw [PA_hid h, PA_hid (h.mono fun i hi => (andN_true.1 hi).1)]
          · have h' : ¬ Hid base L.length (andN A' x.idx) id := by
              rintro ⟨j, h1, h2, rfl⟩
              have hj : j ≠ x.idx := fun e' => e (by rw [e'])
              exact h ⟨j, h1, by simpa [andN, hj] using h2, rfl⟩
            rw [PA_not h, PA_not h', Pl.new_ne _ _ e]
      have hF' : ∀ b, FA F (ρ.new (base + x.idx) (w.heap.size, 0)) base L.length A' b → FA F ρ base L.length A' b := by
        intro b h
        rcases h with h | ⟨j, h1, h2, h3, h4⟩
        · exact .inl h
        · have e : j ≠ x.idx := fun e => by rw [e, hA] at h2; cases h2
          rw [hnew e] at h3; rw [hnewat e] at h4
          exact .inr ⟨j, h1, h2, h3, h4⟩
      have hg : ∀ id, (withObjs D.S A' D.made).get id = ((withObjs D.S (andN A' x.idx) D.made).made (base + x.idx) (withObjs D.S (andN A' x.idx) D.made).next ob).get id := by
        intro id
        rw [St.get_made]
        by_cases e : id = base + x.idx
        · rw [if_pos e, e]
          exact withObjs_get _ _ _ hI.ev.nodup hm hA
        · rw [if_neg e]
          refine withObjs_get_congr _ _ _ (fun m hmm hid => ?_) rfl
          have := (hI.ev.made m hmm).1
          have hne : m.idx ≠ x.idx := by omega
          simp [andN, hne]
      have hnxt : (withObjs D.S A' D.made).next = (withObjs D.S (andN A' x.idx) D.made).next := by rw [(withObjs_next _ _ _).1, (withObjs_next _ _ _).1]
      have hflr : (withObjs D.S A' D.made).floor = (withObjs D.S (andN A' x.idx) D.made).floor := by rw [(withObjs_next _ _ _).2, (withObjs_next _ _ _).2]
      have ht' : Tr (FA F ρ base L.length A') ((PA ρ base L.length (andN A' x.idx)).new (base + x.idx) (w.heap.size, 0)) ((withObjs D.S (andN A' x.idx) D.made).made (base + x.idx) (withObjs D.S (andN A' x.idx) D.made).next ob)
          (FA F (ρ.new (base + x.idx) (w.heap.size, 0)) base L.length A') ((PA ρ base L.length (andN A' x.idx)).new (base + x.idx) (w.heap.size, 0)) (withObjs D.S A' D.made) w' := .like hF' hg
      refine ⟨?_, ?_, ?_⟩
      · rw [hP]
        exact hmk.r.like hF' (fun _ h => h) hg (Nat.le_of_eq hnxt.symm)
      · rw [hP]
        exact (hr.e.trans hmk.ext).like hg hnxt hflr
      · rw [hP]
        refine SlR.congr hwr ?_
        rw [hA, if_pos rfl, hval]
        exact ((ht'.slr (hS1.ext hmk.ext)).put hdst hI.sz (ht'.ar hmk.val)).1

end
end Go.Rf
