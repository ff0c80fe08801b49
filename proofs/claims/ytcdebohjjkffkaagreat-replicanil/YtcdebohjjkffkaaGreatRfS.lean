/- The steps of a state beside its world: a new object, an object that is turned, one that is laid anew, one that is shut. -/
import Derived.Test.YtcdebohjjkffkaaGreatRfR
namespace Go.Rf
set_option linter.unusedVariables false
set_option linter.unusedSimpArgs false
open Go

section
variable {F : Fo} {ρ ρ' : Pl} {S S' : St} {w w' : World} {P : Program}

theorem St.get_put (S : St) (id : Nat) (o : AObj) (j : Nat) : (S.put id o).get j = if j = id then some o else S.get j := PM.get_set _ _ _ _
theorem St.get_put_self (S : St) (id : Nat) (o : AObj) : (S.put id o).get id = some o := by rw [St.get_put, if_pos rfl]
theorem St.get_put_ne (S : St) {id j : Nat} (o : AObj) (h : j ≠ id) : (S.put id o).get j = S.get j := by rw [St.get_put, if_neg h]
theorem St.get_alloc (S : St) (o : AObj) (j : Nat) : (S.alloc o).get j = if j = S.next then some o else S.get j := PM.get_set _ _ _ _

/-- The state goes on with its world. -/
theorem R.go (hR : R F ρ S w P) (hE : Ext ρ S w ρ' S' w') (hlt : ∀ id, (ρ' id).isSome = true → id < S'.next)
    (hob : ∀ id o, S'.get id = some o → ((ρ id).isSome = true ∧ S.get id = some o ∧ (o.own = true → w'.heap[(ρ.at id).1]? = w.heap[(ρ.at id).1]?)) ∨
      ((ρ' id).isSome = true ∧ ObR F ρ' S' w' P id o))
    (hinj : ∀ id id' o o', S'.get id = some o → S'.get id' = some o' → o.own = true → o'.own = true → (ρ'.at id).1 = (ρ'.at id').1 → id = id')
    (haway : ∀ id o, S'.get id = some o → o.own = true → ¬ F (ρ'.at id).1) (hres : ∀ id, F.ids id → ρ' id = none) : R F ρ' S' w' P where
  ob id o ho := by
    rcases hob id o ho with ⟨h1, h2, h3⟩ | h
    · exact ⟨hE.born id h1, ObR.stay hE h2 ho h1 h3 (hR.ob id o h2).2⟩
    · exact h
  lt := hlt
  inj := hinj
  away := haway
  flt b hb := Nat.lt_of_lt_of_le (hR.flt b hb) hE.size
  res id h := ⟨hres id h, Nat.lt_of_lt_of_le (hR.res id h).2 hE.next⟩

/-- A place more. -/
def Pl.new (ρ : Pl) (id : Nat) (p : Nat × Nat) : Pl := fun j => if j = id then some p else ρ j

theorem Pl.new_self (ρ : Pl) (id : Nat) (p : Nat × Nat) : (ρ.new id p) id = some p := by simp [Pl.new]
theorem Pl.new_ne (ρ : Pl) {id j : Nat} (p : Nat × Nat) (h : j ≠ id) : (ρ.new id p) j = ρ j := by simp [Pl.new, h]
theorem Pl.at_new_self (ρ : Pl) (id : Nat) (p : Nat × Nat) : (ρ.new id p).at id = p := by simp [Pl.at, Pl.new_self]
theorem Pl.at_new_ne (ρ : Pl) {id j : Nat} (p : Nat × Nat) (h : j ≠ id) : (ρ.new id p).at j = ρ.at j := by simp [Pl.at, Pl.new_ne ρ p h]

/-- An own object's block is there. -/
theorem ObR.lt {id : Nat} {o : AObj} (h : ObR F ρ S w P id o) : (ρ.at id).1 < w.heap.size := by
  have key : ∀ x : Obj, w.heap[(ρ.at id).1]? = some x → (ρ.at id).1 < w.heap.size := fun x hx => (Array.getElem?_eq_some_iff.1 hx).1
  cases o with
  | row t sz ver cs => obtain ⟨_, c, e, lo, hi, pre, vs, post, h1, _⟩ := h; exact key _ h1
  | fro sz ver els => obtain ⟨_, _, h2, _⟩ := h; exact h2.1
  | map k es clock => obtain ⟨ms, h1, _⟩ := h; exact key _ h1
  | mit m since seen stepped => obtain ⟨sn, mb, _, h2, _⟩ := h; exact key _ h2
  | sit s pos => obtain ⟨b, _, h2⟩ := h; exact key _ h2
  | lp st slots params assign body pending => obtain ⟨fn, f, tmps, ps, ca, cb, pd, dfs, h1, _⟩ := h; exact key _ h1
  | dfb sh => exact key _ h

theorem R.block_lt (hR : R F ρ S w P) {id : Nat} {o : AObj} (h : S.get id = some o) : (ρ.at id).1 < w.heap.size := (hR.ob id o h).2.lt

/-- The world with one block more. -/
theorem alloc_get (w : World) (o : Obj) (b : Nat) : (w.alloc o).heap[b]? = if b = w.heap.size then some o else w.heap[b]? := by
  show (w.heap.push o)[b]? = _
  exact Array.getElem?_push
theorem alloc_size (w : World) (o : Obj) : (w.alloc o).heap.size = w.heap.size + 1 := Array.size_push o
theorem alloc_get_lt (w : World) (o : Obj) {b : Nat} (h : b < w.heap.size) : (w.alloc o).heap[b]? = w.heap[b]? := by
  rw [alloc_get, if_neg (by omega)]
theorem alloc_get_new (w : World) (o : Obj) : (w.alloc o).heap[w.heap.size]? = some o := by rw [alloc_get, if_pos rfl]

theorem Room.lt {b n : Nat} (h : Room w b n) : b < w.heap.size := by
  obtain ⟨c, e, fz, h1, _⟩ := h; exact (Array.getElem?_eq_some_iff.1 h1).1
theorem Room.congr {b n : Nat} (h : Room w b n) (hb : w'.heap[b]? = w.heap[b]?) : Room w' b n := by
  obtain ⟨c, e, fz, h1, h2⟩ := h; exact ⟨c, e, fz, hb.trans h1, h2⟩
theorem SameRoom.congr {b : Nat} (hb : w'.heap[b]? = w.heap[b]?) : SameRoom w w' b := fun _ h => h.congr hb

/-! ### A new object -/

theorem fresh_none (hR : R F ρ S w P) : Free F ρ S.next := by
  refine ⟨?_, fun h => Nat.lt_irrefl _ (hR.res _ h).2⟩
  cases hh : ρ S.next with
  | none => rfl
  | some p => exact absurd (hR.lt S.next (by rw [hh]; rfl)) (Nat.lt_irrefl _)

theorem Ext.alloc (hR : R F ρ S w P) {n nx : Nat} (ob : AObj) (o : Obj) (off : Nat) (hn : ρ n = none) (hx : S.next ≤ nx) (hfl : S.floor ≤ n) :
    Ext ρ S w (ρ.new n (w.heap.size, off)) { S with objs := S.objs.set n ob, next := nx } (w.alloc o) where
  size := by rw [alloc_size]; omega
  next := hx
  born id h := by
    by_cases e : id = n
    · subst e; simp [Pl.new_self]
    · rw [Pl.new_ne _ _ e]; exact h
  out b hb hno := by
    refine ⟨fun ⟨id, o1, h1, h2, h3⟩ => ?_, alloc_get_lt w o hb⟩
    have h1 : (S.put n ob).get id = some o1 := h1
    rw [St.get_put] at h1
    by_cases e : id = n
    · subst e; rw [Pl.at_new_self] at h3; simp only at h3; omega
    · rw [if_neg e] at h1; rw [Pl.at_new_ne _ _ e] at h3; exact hno ⟨id, o1, h1, h2, h3⟩
  ob id o' hb ho := by
    have e : id ≠ n := by intro e; subst e; rw [hn] at hb; cases hb
    have ho : (S.put n ob).get id = some o' := ho
    rw [St.get_put_ne _ _ e] at ho
    exact ⟨o', ho, o'.kin_refl, Nat.le_refl _, fun _ => ⟨Pl.at_new_ne _ _ e, SameRoom.congr (alloc_get_lt w o (hR.block_lt ho))⟩⟩
  flr := rfl
  low id hid := by
    have e : id ≠ n := by omega
    exact ⟨St.get_put_ne S ob e, Pl.new_ne _ _ e, fun o1 ho => alloc_get_lt w o (hR.block_lt ho)⟩
  calm := ⟨rfl, rfl⟩

theorem R.alloc (hR : R F ρ S w P) {n nx : Nat} {ob : AObj} {o : Obj} {off : Nat} (hn : Free F ρ n) (hx : S.next ≤ nx) (hlt : n < nx) (hfl : S.floor ≤ n)
    (hob : ObR F (ρ.new n (w.heap.size, off)) { S with objs := S.objs.set n ob, next := nx } (w.alloc o) P n ob) :
    R F (ρ.new n (w.heap.size, off)) { S with objs := S.objs.set n ob, next := nx } (w.alloc o) P := by
  have hg : ∀ id, ({ S with objs := S.objs.set n ob, next := nx } : St).get id = if id = n then some ob else S.get id := fun id => PM.get_set _ _ _ _
  refine hR.go (Ext.alloc hR ob o off hn.1 hx hfl) ?_ ?_ ?_ ?_ ?_
  · intro id h
    by_cases e : id = n
    · subst e; exact hlt
    · rw [Pl.new_ne _ _ e] at h; exact Nat.lt_of_lt_of_le (hR.lt id h) hx
  · intro id o1 h1
    rw [hg] at h1
    by_cases e : id = n
    · subst e; rw [if_pos rfl] at h1; cases h1; exact .inr ⟨by simp [Pl.new_self], hob⟩
    · rw [if_neg e] at h1; exact .inl ⟨(hR.ob id o1 h1).1, h1, fun _ => alloc_get_lt w o (hR.block_lt h1)⟩
  · intro id id' o1 o2 h1 h2 h3 h4 he
    rw [hg] at h1 h2
    by_cases e : id = n
    · by_cases e' : id' = n
      · rw [e, e']
      · subst e; rw [if_neg e'] at h2; rw [Pl.at_new_self, Pl.at_new_ne _ _ e'] at he
        have := hR.block_lt h2; simp only at he; omega
    · rw [if_neg e] at h1
      by_cases e' : id' = n
      · subst e'; rw [Pl.at_new_self, Pl.at_new_ne _ _ e] at he
        have := hR.block_lt h1; simp only at he; omega
      · rw [if_neg e'] at h2; rw [Pl.at_new_ne _ _ e, Pl.at_new_ne _ _ e'] at he; exact hR.inj id id' o1 o2 h1 h2 h3 h4 he
  · intro id o1 h1 h2 h3
    rw [hg] at h1
    by_cases e : id = n
    · subst e; rw [Pl.at_new_self] at h3; have := hR.flt _ h3; simp only at this; omega
    · rw [if_neg e] at h1; rw [Pl.at_new_ne _ _ e] at h3; exact hR.away id o1 h1 h2 h3
  · intro id h
    rw [Pl.new_ne _ _ fun e : id = n => hn.2 (e ▸ h)]
    exact (hR.res id h).1

/-! ### An object that is turned where it lies -/

/-- Another object lies elsewhere. -/
theorem R.apart (hR : R F ρ S w P) {id j : Nat} {ob o' : AObj} (hid : S.get id = some ob) (hown : ob.own = true) (ho : S.get j = some o') (e : j ≠ id) : (ρ.at j).1 ≠ (ρ.at id).1 := by
  intro eb
  cases hown2 : o'.own with
  | true => exact absurd (hR.inj _ _ _ _ ho hid hown2 hown eb) e
  | false =>
    cases o' with
    | fro a b c => obtain ⟨_, _, h3, _⟩ := (hR.ob _ _ ho).2; exact absurd ⟨id, ob, hid, hown, eb.symm⟩ h3.2.1
    | _ => simp [AObj.own] at hown2

theorem Ext.turn (hR : R F ρ S w P) {id : Nat} {ob ob' : AObj} (hid : S.get id = some ob) (hown : ob.own = true) (hown' : ob'.own = true) (hk : ob.kin ob') (hv : ob.ver ≤ ob'.ver)
    (hfl : S.floor ≤ id) (hsz : w'.heap.size = w.heap.size) (hne : ∀ b, b ≠ (ρ.at id).1 → w'.heap[b]? = w.heap[b]?) (hroom : ob.ver = ob'.ver → SameRoom w w' (ρ.at id).1) (hc : Calm w w') :
    Ext ρ S w ρ (S.put id ob') w' where
  size := Nat.le_of_eq hsz.symm
  next := Nat.le_refl _
  born _ h := h
  out b _ hno := by
    refine ⟨fun ⟨j, o1, h1, h2, h3⟩ => ?_, hne b fun e => hno ⟨id, ob, hid, hown, e.symm⟩⟩
    rw [St.get_put] at h1
    by_cases e : j = id
    · subst e; exact hno ⟨j, ob, hid, hown, h3⟩
    · rw [if_neg e] at h1; exact hno ⟨j, o1, h1, h2, h3⟩
  ob j o' _ ho := by
    rw [St.get_put] at ho
    by_cases e : j = id
    · subst e; rw [if_pos rfl] at ho; cases ho
      exact ⟨ob, hid, hk, hv, fun e => ⟨rfl, hroom e⟩⟩
    · rw [if_neg e] at ho
      refine ⟨o', ho, o'.kin_refl, Nat.le_refl _, fun _ => ⟨rfl, ?_⟩⟩
      exact SameRoom.congr (hne _ (hR.apart hid hown ho e))
  flr := rfl
  low j hj := by
    have e : j ≠ id := by omega
    exact ⟨St.get_put_ne S ob' e, rfl, fun o1 ho => hne _ (hR.apart hid hown ho e)⟩
  calm := hc

theorem R.turn (hR : R F ρ S w P) {id : Nat} {ob ob' : AObj} (hid : S.get id = some ob) (hown : ob.own = true) (hown' : ob'.own = true)
    (hE : Ext ρ S w ρ (S.put id ob') w') (hne : ∀ b, b ≠ (ρ.at id).1 → w'.heap[b]? = w.heap[b]?) (hob : ObR F ρ (S.put id ob') w' P id ob') : R F ρ (S.put id ob') w' P := by
  refine hR.go hE hR.lt ?_ ?_ ?_ fun id h => (hR.res id h).1
  · intro j o1 h1
    rw [St.get_put] at h1
    by_cases e : j = id
    · subst e; rw [if_pos rfl] at h1; cases h1; exact .inr ⟨(hR.ob _ _ hid).1, hob⟩
    · rw [if_neg e] at h1
      exact .inl ⟨(hR.ob _ _ h1).1, h1, fun ho => hne _ fun eb => e (hR.inj _ _ _ _ h1 hid ho hown eb)⟩
  · intro j j' o1 o2 h1 h2 h3 h4 he
    rw [St.get_put] at h1 h2
    by_cases e : j = id
    · by_cases e' : j' = id
      · rw [e, e']
      · rw [if_neg e'] at h2; subst e; exact hR.inj _ _ _ _ hid h2 hown h4 he
    · rw [if_neg e] at h1
      by_cases e' : j' = id
      · subst e'; exact hR.inj _ _ _ _ h1 hid h3 hown he
      · rw [if_neg e'] at h2; exact hR.inj _ _ _ _ h1 h2 h3 h4 he
  · intro j o1 h1 h2
    rw [St.get_put] at h1
    by_cases e : j = id
    · subst e; exact hR.away _ _ hid hown
    · rw [if_neg e] at h1; exact hR.away _ _ h1 h2

/-! ### An object that is laid anew, in a new block -/

theorem Ext.anew (hR : R F ρ S w P) {id : Nat} {ob ob' : AObj} (o : Obj) (hid : S.get id = some ob) (hk : ob.kin ob') (hv : ob.ver < ob'.ver) (hfl : S.floor ≤ id) :
    Ext ρ S w (ρ.new id (w.heap.size, 0)) (S.put id ob') (w.alloc o) where
  size := by rw [alloc_size]; omega
  next := Nat.le_refl _
  born j h := by
    by_cases e : j = id
    · subst e; simp [Pl.new_self]
    · rw [Pl.new_ne _ _ e]; exact h
  out b hb hno := by
    refine ⟨fun ⟨j, o1, h1, h2, h3⟩ => ?_, alloc_get_lt w o hb⟩
    rw [St.get_put] at h1
    by_cases e : j = id
    · subst e; rw [Pl.at_new_self] at h3; simp only at h3; omega
    · rw [if_neg e] at h1; rw [Pl.at_new_ne _ _ e] at h3; exact hno ⟨j, o1, h1, h2, h3⟩
  ob j o' hb ho := by
    rw [St.get_put] at ho
    by_cases e : j = id
    · subst e; rw [if_pos rfl] at ho; cases ho
      exact ⟨ob, hid, hk, Nat.le_of_lt hv, fun e => by omega⟩
    · rw [if_neg e] at ho
      exact ⟨o', ho, o'.kin_refl, Nat.le_refl _, fun _ => ⟨Pl.at_new_ne _ _ e, SameRoom.congr (alloc_get_lt w o (hR.block_lt ho))⟩⟩
  flr := rfl
  low j hj := by
    have e : j ≠ id := by omega
    exact ⟨St.get_put_ne S ob' e, Pl.new_ne _ _ e, fun o1 ho => alloc_get_lt w o (hR.block_lt ho)⟩
  calm := ⟨rfl, rfl⟩

theorem R.anew (hR : R F ρ S w P) {id : Nat} {ob ob' : AObj} {o : Obj} (hid : S.get id = some ob)
    (hE : Ext ρ S w (ρ.new id (w.heap.size, 0)) (S.put id ob') (w.alloc o)) (hob : ObR F (ρ.new id (w.heap.size, 0)) (S.put id ob') (w.alloc o) P id ob') :
    R F (ρ.new id (w.heap.size, 0)) (S.put id ob') (w.alloc o) P := by
  refine hR.go hE ?_ ?_ ?_ ?_ ?_
  · intro j h
    by_cases e : j = id
    · subst e; exact hR.lt _ (hR.ob _ _ hid).1
    · rw [Pl.new_ne _ _ e] at h; exact hR.lt _ h
  · intro j o1 h1
    rw [St.get_put] at h1
    by_cases e : j = id
    · subst e; rw [if_pos rfl] at h1; cases h1; exact .inr ⟨by simp [Pl.new_self], hob⟩
    · rw [if_neg e] at h1; exact .inl ⟨(hR.ob _ _ h1).1, h1, fun _ => alloc_get_lt w o (hR.block_lt h1)⟩
  · intro j j' o1 o2 h1 h2 h3 h4 he
    rw [St.get_put] at h1 h2
    by_cases e : j = id
    · by_cases e' : j' = id
      · rw [e, e']
      · subst e; rw [if_neg e'] at h2; rw [Pl.at_new_self, Pl.at_new_ne _ _ e'] at he
        have := hR.block_lt h2; simp only at he; omega
    · rw [if_neg e] at h1
      by_cases e' : j' = id
      · subst e'; rw [Pl.at_new_self, Pl.at_new_ne _ _ e] at he
        have := hR.block_lt h1; simp only at he; omega
      · rw [if_neg e'] at h2; rw [Pl.at_new_ne _ _ e, Pl.at_new_ne _ _ e'] at he; exact hR.inj _ _ _ _ h1 h2 h3 h4 he
  · intro j o1 h1 h2 h3
    rw [St.get_put] at h1
    by_cases e : j = id
    · subst e; rw [Pl.at_new_self] at h3; have := hR.flt _ h3; simp only at this; omega
    · rw [if_neg e] at h1; rw [Pl.at_new_ne _ _ e] at h3; exact hR.away _ _ h1 h2 h3
  · intro j h
    have hj := (hR.res j h).1
    rw [Pl.new_ne _ _ fun e : j = id => by have := (hR.ob _ _ hid).1; rw [← e, hj] at this; cases this]
    exact hj

/-! ### A row that is shut -/

theorem Ext.shut (hR : R F ρ S w P) {id sz ver : Nat} {t : TypeId} {cs : List Cell} {els : List (List Dat)} (hid : S.get id = some (.row t sz ver cs)) (hfl : S.floor ≤ id) :
    Ext ρ S w ρ (S.put id (.fro sz ver els)) w where
  size := Nat.le_refl _
  next := Nat.le_refl _
  born _ h := h
  out b _ hno := by
    refine ⟨fun ⟨j, o1, h1, h2, h3⟩ => ?_, rfl⟩
    rw [St.get_put] at h1
    by_cases e : j = id
    · subst e; rw [if_pos rfl] at h1; cases h1; simp [AObj.own] at h2
    · rw [if_neg e] at h1; exact hno ⟨j, o1, h1, h2, h3⟩
  ob j o' _ ho := by
    rw [St.get_put] at ho
    by_cases e : j = id
    · subst e; rw [if_pos rfl] at ho; cases ho
      exact ⟨_, hid, rfl, Nat.le_refl _, fun _ => ⟨rfl, fun _ h => h⟩⟩
    · rw [if_neg e] at ho
      exact ⟨o', ho, o'.kin_refl, Nat.le_refl _, fun _ => ⟨rfl, fun _ h => h⟩⟩
  flr := rfl
  low j hj := ⟨St.get_put_ne S _ (by omega), rfl, fun _ _ => rfl⟩
  calm := ⟨rfl, rfl⟩

theorem R.shut (hR : R F ρ S w P) {id sz ver : Nat} {t : TypeId} {cs : List Cell} {els : List (List Dat)} (hid : S.get id = some (.row t sz ver cs)) (hfl : S.floor ≤ id)
    (hob : ObR F ρ (S.put id (.fro sz ver els)) w P id (.fro sz ver els)) : R F ρ (S.put id (.fro sz ver els)) w P := by
  refine hR.go (Ext.shut hR hid hfl) hR.lt ?_ ?_ ?_ fun id h => (hR.res id h).1
  · intro j o1 h1
    rw [St.get_put] at h1
    by_cases e : j = id
    · subst e; rw [if_pos rfl] at h1; cases h1; exact .inr ⟨(hR.ob _ _ hid).1, hob⟩
    · rw [if_neg e] at h1; exact .inl ⟨(hR.ob _ _ h1).1, h1, fun _ => rfl⟩
  · intro j j' o1 o2 h1 h2 h3 h4 he
    rw [St.get_put] at h1 h2
    by_cases e : j = id
    · subst e; rw [if_pos rfl] at h1; cases h1; simp [AObj.own] at h3
    · by_cases e' : j' = id
      · subst e'; rw [if_pos rfl] at h2; cases h2; simp [AObj.own] at h4
      · rw [if_neg e] at h1; rw [if_neg e'] at h2; exact hR.inj _ _ _ _ h1 h2 h3 h4 he
  · intro j o1 h1 h2
    rw [St.get_put] at h1
    by_cases e : j = id
    · subst e; rw [if_pos rfl] at h1; cases h1; simp [AObj.own] at h2
    · rw [if_neg e] at h1; exact hR.away _ _ h1 h2

/-! ### The same memory -/

theorem Ext.same (hh : Alike w w') : Ext ρ S w ρ S w' where
  size := by rw [hh.heap]; exact Nat.le_refl _
  next := Nat.le_refl _
  born _ h := h
  out b _ hno := ⟨hno, by rw [hh.heap]⟩
  ob _ o' _ ho := ⟨o', ho, o'.kin_refl, Nat.le_refl _, fun _ => ⟨rfl, SameRoom.congr (by rw [hh.heap])⟩⟩
  flr := rfl
  low _ _ := ⟨rfl, rfl, fun _ _ => by rw [hh.heap]⟩
  calm := hh.calm

theorem R.same (hR : R F ρ S w P) (hh : Alike w w') : R F ρ S w' P :=
  hR.go (Ext.same hh) hR.lt (fun _ _ h => .inl ⟨(hR.ob _ _ h).1, h, fun _ => by rw [hh.heap]⟩) hR.inj hR.away fun id h => (hR.res id h).1

end
end Go.Rf
