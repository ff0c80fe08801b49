/- A region whose order is open: what its operations write, what their order tells, how far the machine has come. -/
import Derived.Test.YtcdebohjjkffkaaGreatRfDc
namespace Go.Rf
set_option linter.unusedVariables false
set_option linter.unusedSimpArgs false
open Go

/-! ## Writing -/

/-- What these operations write, one behind the other. -/
def wr (g : Nat → Option AVal) : List DOp → PM AVal → PM AVal
  | [], s => s
  | o :: r, s => wr g r (match g o.idx with
    | some v => setDst s o.op.dst v
    | none => s)

theorem setDst_get (s : PM AVal) (d : Option Nat) (v : AVal) (t : Nat) : (setDst s d v).get t = if d = some t then some v else s.get t := by
  cases d with
  | none => simp [setDst]
  | some d =>
    simp only [setDst, PM.get_set, Option.some.injEq]
    by_cases e : t = d
    · subst e; simp
    · rw [if_neg e, if_neg (Ne.symm e)]

theorem wr_append (g : Nat → Option AVal) : ∀ (p q : List DOp) (s : PM AVal), wr g (p ++ q) s = wr g q (wr g p s)
  | [], _, _ => rfl
  | o :: p, q, s => by simp only [List.cons_append, wr]; exact wr_append g p q _

theorem wr_congr {g g' : Nat → Option AVal} : ∀ (L : List DOp) (s s' : PM AVal) (t : Nat), (∀ o ∈ L, o.op.dst = some t → g o.idx = g' o.idx) → s.get t = s'.get t → (wr g L s).get t = (wr g' L s').get t
  | [], _, _, _, _, h => h
  | o :: r, s, s', t, h, hs => by
    simp only [wr]
    refine wr_congr r _ _ t (fun o' ho' => h o' (by simp [ho'])) ?_
    by_cases e : o.op.dst = some t
    · rw [← h o (by simp) e]
      cases g o.idx with
      | none => exact hs
      | some v => simp only [setDst_get, if_pos e]
    · have h1 : ∀ (x : Option AVal) (s : PM AVal), (match x with
        | some v => setDst s o.op.dst v
        | none => s).get t = s.get t := by
        intro x s
        cases x with
        | none => rfl
        | some v => simp only [setDst_get, if_neg e]
      rw [h1, h1, hs]

theorem wr_eq {g g' : Nat → Option AVal} : ∀ (L : List DOp) (s : PM AVal), (∀ o ∈ L, g o.idx = g' o.idx) → wr g L s = wr g' L s
  | [], _, _ => rfl
  | o :: r, s, h => by
    simp only [wr, h o (by simp)]
    exact wr_eq r _ fun o' ho' => h o' (by simp [ho'])

theorem wr_none {g : Nat → Option AVal} (L : List DOp) (s : PM AVal) (h : ∀ o ∈ L, g o.idx = none) : wr g L s = s := by
  induction L generalizing s with
  | nil => rfl
  | cons o r ih => simp only [wr, h o (by simp)]; exact ih s fun o' ho' => h o' (by simp [ho'])

/-- Nobody writes it. -/
theorem wr_get_not {g : Nat → Option AVal} (L : List DOp) (s : PM AVal) (t : Nat) (h : ∀ o ∈ L, o.op.dst = some t → g o.idx = none) : (wr g L s).get t = s.get t := by
  have := wr_congr (g := g) (g' := fun _ => none) L s s t h rfl
  rw [this, wr_none _ _ fun _ _ => rfl]

theorem poison_get : ∀ (L : List DOp) (s : PM AVal) (t : Nat), (poison L s).get t = some .bad ∨ ((poison L s).get t = s.get t ∧ ∀ o ∈ L, o.op.dst ≠ some t)
  | [], s, t => .inr ⟨rfl, fun _ h => nomatch h⟩
  | o :: r, s, t => by
    have hr := poison_get r (setDst s o.op.dst .bad) t
    have e : poison (o :: r) s = poison r (setDst s o.op.dst .bad) := rfl
    rw [e]
    rcases hr with h | ⟨h, h'⟩
    · exact .inl h
    · rw [setDst_get] at h
      by_cases hd : o.op.dst = some t
      · rw [if_pos hd] at h; exact .inl h
      · rw [if_neg hd] at h
        refine .inr ⟨h, fun o' ho' => ?_⟩
        rcases List.mem_cons.1 ho' with rfl | ho'
        · exact hd
        · exact h' o' ho'

/-! ## Objects beside -/

theorem withObjs_congr {p q : Nat → Bool} : ∀ (l : List Made) (S : St), (∀ m ∈ l, p m.idx = q m.idx) → withObjs S p l = withObjs S q l
  | [], _, _ => rfl
  | m :: r, S, h => by
    simp only [withObjs, h m (by simp)]
    split
    · exact withObjs_congr r _ fun m' hm' => h m' (by simp [hm'])
    · exact withObjs_congr r _ fun m' hm' => h m' (by simp [hm'])

theorem withObjs_next (p : Nat → Bool) : ∀ (l : List Made) (S : St), (withObjs S p l).next = S.next ∧ (withObjs S p l).floor = S.floor
  | [], _ => ⟨rfl, rfl⟩
  | m :: r, S => by
    simp only [withObjs]
    split
    · exact withObjs_next p r (S.put m.id m.ob)
    · exact withObjs_next p r S

/-- Made objects have numbers of their own. -/
def NodupI (l : List Made) : Prop := l.Pairwise fun a b => a.id ≠ b.id

theorem withObjs_not {p : Nat → Bool} : ∀ (l : List Made) (S : St) (id : Nat), (∀ m ∈ l, p m.idx = true → m.id ≠ id) → (withObjs S p l).get id = S.get id
  | [], _, _, _ => rfl
  | m :: r, S, id, h => by
    simp only [withObjs]
    split
    · rename_i hp
      rw [withObjs_not r _ id fun m' hm' => h m' (by simp [hm']), St.get_put_ne _ _ (Ne.symm (h m (by simp) hp))]
    · exact withObjs_not r S id fun m' hm' => h m' (by simp [hm'])

theorem withObjs_get {p : Nat → Bool} : ∀ (l : List Made) (S : St) (m : Made), NodupI l → m ∈ l → p m.idx = true → (withObjs S p l).get m.id = some m.ob
  | [], _, _, _, h, _ => nomatch h
  | x :: r, S, m, hn, hm, hp => by
    have hn' := List.pairwise_cons.1 hn
    rcases List.mem_cons.1 hm with rfl | hm
    · simp only [withObjs, hp]
      rw [withObjs_not r _ _ fun m' hm' _ => Ne.symm (hn'.1 m' hm'), St.get_put_self]
    · simp only [withObjs]
      split
      · exact withObjs_get r _ m hn'.2 hm hp
      · exact withObjs_get r S m hn'.2 hm hp

/-- What is there is either made or was there. -/
theorem withObjs_inv {p : Nat → Bool} (l : List Made) (S : St) (id : Nat) (o : AObj) (hn : NodupI l) (h : (withObjs S p l).get id = some o) :
    (∃ m ∈ l, p m.idx = true ∧ m.id = id ∧ o = m.ob) ∨ ((∀ m ∈ l, p m.idx = true → m.id ≠ id) ∧ S.get id = some o) := by
  by_cases hx : ∃ m ∈ l, p m.idx = true ∧ m.id = id
  · obtain ⟨m, h1, h2, rfl⟩ := hx
    rw [withObjs_get l S m hn h1 h2] at h
    cases h
    exact .inl ⟨m, h1, h2, rfl, rfl⟩
  · have hno : ∀ m ∈ l, p m.idx = true → m.id ≠ id := fun m h1 h2 h3 => hx ⟨m, h1, h2, h3⟩
    rw [withObjs_not l S id hno] at h
    exact .inr ⟨hno, h⟩

/-! ## What the order tells -/

structure LOk (P : Program) (N : Nat) (ops : Array Oper) (L : List DOp) : Prop where
  order : ∀ p x q, L = p ++ x :: q → ∀ i, x.op.anc.testBit i = true → ∃ y ∈ p, y.idx = i
  dup : ∀ p x q, L = p ++ x :: q → ∀ y ∈ p, y.idx ≠ x.idx
  ord : ∀ x ∈ L, ∀ y ∈ L, ∀ d, y.op.dst = some d → d ∈ x.op.named → x.idx = y.idx ∨ x.op.anc.testBit y.idx = true ∨ y.op.anc.testBit x.idx = true
  eff : ∀ p x q, L = p ++ x :: q → x.op.isEff = true → ∀ y ∈ q, y.op.anc.testBit x.idx = true
  all : ∀ i, i < ops.size → ∃ x ∈ L, x.idx = i
  len : L.length = ops.size
  of : ∀ x ∈ L, ∃ o, ops[x.idx]? = some o ∧ compOper P N ops (Region.before ops) x.idx o = some x.op
  edge : ∀ i o, ops[i]? = some o → ∀ e ∈ o.after, Region.binds .any e = true → e.on < i
  anc : ∀ i o, ops[i]? = some o → (Region.before ops).getD i 0 = ahead (Region.before ops) o

theorem permOk_inv : ∀ (L : List DOp) (seen : Nat), permOk L seen = true → ∀ p x q, L = p ++ x :: q →
    (∀ i, x.op.anc.testBit i = true → seen.testBit i = true ∨ ∃ y ∈ p, y.idx = i) ∧ seen.testBit x.idx = false ∧ ∀ y ∈ p, y.idx ≠ x.idx
  | [], _, _, p, x, q, h => by cases p <;> cases h
  | z :: r, seen, h, p, x, q, hL => by
    simp only [permOk, Bool.and_eq_true, Bool.not_eq_true', beq_iff] at h
    obtain ⟨⟨h1, h2⟩, h3⟩ := h
    cases p with
    | nil =>
      simp only [List.nil_append, List.cons.injEq] at hL
      obtain ⟨rfl, rfl⟩ := hL
      refine ⟨fun i hi => .inl ?_, h1, fun y hy => nomatch hy⟩
      rw [← h2, Nat.testBit_and, Bool.and_eq_true] at hi
      exact hi.2
    | cons y p =>
      simp only [List.cons_append, List.cons.injEq] at hL
      obtain ⟨rfl, rfl⟩ := hL
      obtain ⟨k1, k2, k3⟩ := permOk_inv _ _ h3 p x q rfl
      rw [Nat.testBit_or, Bool.or_eq_false_iff, Nat.testBit_two_pow] at k2
      have hne : z.idx ≠ x.idx := fun e => by simp [e] at k2
      refine ⟨fun i hi => ?_, k2.1, fun y hy => ?_⟩
      · rcases k1 i hi with h | ⟨y, hy, e⟩
        · rw [Nat.testBit_or, Bool.or_eq_true, Nat.testBit_two_pow] at h
          rcases h with h | h
          · exact .inl h
          · exact .inr ⟨z, by simp, of_decide_eq_true h⟩
        · exact .inr ⟨y, by simp [hy], e⟩
      · rcases List.mem_cons.1 hy with rfl | hy
        · exact hne
        · exact k3 y hy

theorem effOk_inv : ∀ (L : List DOp), effOk L = true → ∀ p x q, L = p ++ x :: q → x.op.isEff = true → ∀ y ∈ q, y.op.anc.testBit x.idx = true
  | [], _, p, x, q, h => by cases p <;> cases h
  | z :: r, h, p, x, q, hL => by
    simp only [effOk, Bool.and_eq_true, Bool.or_eq_true, Bool.not_eq_true', List.all_eq_true] at h
    cases p with
    | nil =>
      simp only [List.nil_append, List.cons.injEq] at hL
      obtain ⟨rfl, rfl⟩ := hL
      intro he
      rcases h.1 with h1 | h1
      · rw [he] at h1; cases h1
      · exact h1
    | cons y p =>
      simp only [List.cons_append, List.cons.injEq] at hL
      obtain ⟨rfl, rfl⟩ := hL
      exact effOk_inv _ h.2 p x q rfl

theorem compOpers_get {P : Program} {N : Nat} {ops : Array Oper} {anc : Array Nat} : ∀ (rest : List Oper) (i : Nat) (l : List AOper), compOpers P N ops anc i rest = some l →
    ∀ (k : Nat) (a : AOper), l[k]? = some a → ∃ o, rest[k]? = some o ∧ compOper P N ops anc (i + k) o = some a
  | [], i, l, h, k, a, hk => by
    simp only [compOpers, Option.some.injEq] at h; subst h; cases hk
  | o :: rest, i, l, h, k, a, hk => by
    simp only [compOpers, Option.bind_eq_bind, Option.bind_eq_some_iff, Option.some.injEq] at h
    obtain ⟨x, hx, l', hl', rfl⟩ := h
    cases k with
    | zero =>
      simp only [List.getElem?_cons_zero, Option.some.injEq] at hk
      subst hk
      exact ⟨o, rfl, by simpa using hx⟩
    | succ k =>
      simp only [List.getElem?_cons_succ] at hk
      obtain ⟨o', h1, h2⟩ := compOpers_get rest (i + 1) l' hl' k a hk
      exact ⟨o', h1, by rw [show i + (k + 1) = i + 1 + k by omega]; exact h2⟩

theorem mapO_mem {α β : Type} {f : α → Option β} : ∀ (l : List α) (r : List β), mapO f l = some r → ∀ y ∈ r, ∃ x ∈ l, f x = some y
  | [], r, h, y, hy => by simp only [mapO, Option.some.injEq] at h; subst h; cases hy
  | x :: l, r, h, y, hy => by
    simp only [mapO] at h
    split at h
    · rename_i b hb
      split at h
      · rename_i r' hr'
        cases h
        rcases List.mem_cons.1 hy with rfl | hy
        · exact ⟨x, by simp, hb⟩
        · obtain ⟨x', h1, h2⟩ := mapO_mem l r' hr' y hy
          exact ⟨x', by simp [h1], h2⟩
      · cases h
    · cases h

theorem compDraw_ok {P : Program} {N : Nat} {ops : Array Oper} {L : List DOp} (h : compDraw P N ops = some L) : LOk P N ops L := by
  unfold compDraw at h
  split at h
  · rename_i l hl
    split at h
    · rename_i L' hL'
      split at h
      · rename_i hd
        cases h
        simp only [drawOk, Bool.and_eq_true, beq_iff, List.all_eq_true, List.any_eq_true, List.mem_range] at hd
        obtain ⟨⟨⟨⟨⟨⟨d1, d2⟩, d3⟩, d4⟩, d5⟩, d6⟩, d7⟩ := hd
        have hz : ∀ i o, ops[i]? = some o → (o, i) ∈ ops.toList.zipIdx := by
          intro i o ho
          rw [List.mk_mem_zipIdx_iff_getElem?, Array.getElem?_toList]
          exact ho
        refine ⟨fun p x q e i hi => ?_, fun p x q e => (permOk_inv _ _ d3 p x q e).2.2, fun x hx y hy d h1 h2 => ?_, effOk_inv _ d7, fun i hi => ?_, d5, fun x hx => ?_, fun i o ho e he hb => ?_, fun i o ho => ?_⟩
        · rcases (permOk_inv _ _ d3 p x q e).1 i hi with h | h
          · simp at h
          · exact h
        · simp only [orderOk, List.all_eq_true] at d6
          have := d6 x hx y hy
          rw [h1] at this
          simp only [Bool.or_eq_true, Bool.not_eq_true', beq_iff] at this
          rcases this with ((h | h) | h) | h
          · have : x.op.named.contains d = true := List.contains_iff_mem.2 h2
            rw [h] at this; cases this
          · exact .inl h
          · exact .inr (.inl h)
          · exact .inr (.inr h)
        · obtain ⟨x, h1, h2⟩ := d4 i hi
          exact ⟨x, h1, h2⟩
        · obtain ⟨i, h1, h2⟩ := mapO_mem _ _ hL' x hx
          rw [Option.map_eq_some_iff] at h2
          obtain ⟨a, h3, rfl⟩ := h2
          obtain ⟨o, h4, h5⟩ := compOpers_get _ _ _ hl i a h3
          exact ⟨o, by rw [← Array.getElem?_toList]; exact h4, by simpa using h5⟩
        · simp only [edgesOk, List.all_eq_true] at d1
          have := d1 (o, i) (hz i o ho)
          simp only [Array.all_eq_true_iff_forall_mem, Bool.or_eq_true, Bool.not_eq_true'] at this
          rcases this e he with h | h
          · rw [hb] at h; cases h
          · exact of_decide_eq_true h
        · simp only [ancOk, List.all_eq_true] at d2
          exact beq_iff.1 (d2 (o, i) (hz i o ho))
      · cases h
    · cases h
  · cases h

theorem ahead_bit (anc : Array Nat) (o : Oper) (j : Nat) : (ahead anc o).testBit j = true ↔ ∃ e ∈ o.after, Region.binds .any e = true ∧ (e.on = j ∨ (anc.getD e.on 0).testBit j = true) := by
  have key : ∀ (l : List Edge) (s : Nat), (l.foldl (fun s e => if Region.binds .any e then s ||| 2 ^ e.on ||| anc.getD e.on 0 else s) s).testBit j = true ↔
      s.testBit j = true ∨ ∃ e ∈ l, Region.binds .any e = true ∧ (e.on = j ∨ (anc.getD e.on 0).testBit j = true) := by
    intro l
    induction l with
    | nil => intro s; simp
    | cons x l ih =>
      intro s
      rw [List.foldl_cons, ih]
      by_cases hb : Region.binds .any x = true
      · rw [if_pos hb, Nat.testBit_or, Nat.testBit_or, Nat.testBit_two_pow]
        simp only [Bool.or_eq_true, decide_eq_true_eq, List.mem_cons, exists_eq_or_imp, hb, true_and]
        constructor
        · rintro (((h | h) | h) | h)
          · exact .inl h
          · exact .inr (.inl (.inl h))
          · exact .inr (.inl (.inr h))
          · exact .inr (.inr h)
        · rintro (h | (h | h) | h)
          · exact .inl (.inl (.inl h))
          · exact .inl (.inl (.inr h))
          · exact .inl (.inr h)
          · exact .inr h
      · rw [if_neg hb]
        simp only [List.mem_cons, exists_eq_or_imp, hb, false_and, false_or]
        simp
  have := key o.after.toList 0
  unfold ahead
  rw [this]
  simp

namespace LOk
variable {P : Program} {N : Nat} {ops : Array Oper} {L : List DOp}

theorem anc_of (h : LOk P N ops L) {x : DOp} (hx : x ∈ L) {o : Oper} (ho : ops[x.idx]? = some o) (j : Nat) : x.op.anc.testBit j = true ↔ ∃ e ∈ o.after, Region.binds .any e = true ∧ (e.on = j ∨ ((Region.before ops).getD e.on 0).testBit j = true) := by
  obtain ⟨o', h1, h2⟩ := h.of x hx
  rw [ho] at h1; cases h1
  rw [(compOper_inv h2).2.2.2.1, h.anc _ _ ho, ahead_bit]

theorem eq_of_idx (h : LOk P N ops L) {x y : DOp} (hx : x ∈ L) (hy : y ∈ L) (e : x.idx = y.idx) : x = y := by
  obtain ⟨p, q, rfl⟩ := List.append_of_mem hx
  rcases List.mem_append.1 hy with hy | hy
  · exact absurd e.symm (h.dup p x q rfl y hy)
  · rcases List.mem_cons.1 hy with rfl | hy
    · rfl
    · obtain ⟨q1, q2, rfl⟩ := List.append_of_mem hy
      exact absurd e (h.dup (p ++ x :: q1) y q2 (by simp) x (by simp))

theorem trans (h : LOk P N ops L) : ∀ (n : Nat) (x : DOp), x ∈ L → x.idx ≤ n → ∀ y ∈ L, x.op.anc.testBit y.idx = true → ∀ i, y.op.anc.testBit i = true → x.op.anc.testBit i = true := by
  intro n
  induction n with
  | zero =>
    intro x hx hn y hy hxy i hi
    obtain ⟨o, ho, _⟩ := h.of x hx
    rw [h.anc_of hx ho] at hxy
    obtain ⟨e, he, hb, _⟩ := hxy
    have := h.edge _ _ ho e he hb
    omega
  | succ n ih =>
    intro x hx hn y hy hxy i hi
    obtain ⟨o, ho, _⟩ := h.of x hx
    rw [h.anc_of hx ho] at hxy ⊢
    obtain ⟨e, he, hb, h1⟩ := hxy
    have hlt := h.edge _ _ ho e he hb
    have hle : x.idx < ops.size := (Array.getElem?_eq_some_iff.1 ho).1
    obtain ⟨z, hz, hze⟩ := h.all e.on (by omega)
    obtain ⟨oz, hoz, hcz⟩ := h.of z hz
    have hza : z.op.anc = (Region.before ops).getD e.on 0 := by rw [← hze]; exact (compOper_inv hcz).2.2.2.1
    refine ⟨e, he, hb, .inr ?_⟩
    rw [← hza]
    rcases h1 with h1 | h1
    · have : z = y := h.eq_of_idx hz hy (by omega)
      rw [this]; exact hi
    · rw [← hza] at h1
      exact ih z hz (by omega) y hy h1 i hi

theorem anc_trans (h : LOk P N ops L) {x y : DOp} (hx : x ∈ L) (hy : y ∈ L) (hxy : x.op.anc.testBit y.idx = true) {i : Nat} (hi : y.op.anc.testBit i = true) : x.op.anc.testBit i = true :=
  h.trans _ x hx (Nat.le_refl _) y hy hxy i hi

theorem lt (h : LOk P N ops L) {x : DOp} (hx : x ∈ L) : x.idx < ops.size := by
  obtain ⟨o, ho, _⟩ := h.of x hx
  exact (Array.getElem?_eq_some_iff.1 ho).1

/-- Nobody stands ahead of itself; who stands behind in the order does not stand ahead. -/
theorem not_anc (h : LOk P N ops L) {p q : List DOp} {x y : DOp} (hL : L = p ++ x :: q) (hy : y = x ∨ y ∈ q) : x.op.anc.testBit y.idx = false := by
  cases hb : x.op.anc.testBit y.idx with
  | false => rfl
  | true =>
    obtain ⟨z, hz, hze⟩ := h.order p x q hL _ hb
    rcases hy with rfl | hy
    · exact absurd hze (h.dup p y q hL z hz)
    · subst hL
      have hyz : y = z := h.eq_of_idx (by simp [hy]) (by simp [hz]) hze.symm
      subst hyz
      obtain ⟨q1, q2, rfl⟩ := List.append_of_mem hy
      exact absurd rfl (h.dup (p ++ x :: q1) y q2 (by simp) y (by simp [hz]))

end LOk

/-- With each one those that stand ahead of it. -/
def DC (L : List DOp) (A : Nat → Bool) : Prop := ∀ x ∈ L, A x.idx = true → ∀ i, x.op.anc.testBit i = true → A i = true

/-! ## How far the machine has come -/

def Fact (base : Nat) (slots0 : PM AVal) (D : Dr) (val : Nat → AVal) (p : List DOp) (x : DOp) : Prop :=
  (wanted (wr (fun i => some (val i)) p slots0) x.op.guard = some false ∧ val x.idx = .tup [] ∧ ∀ m ∈ D.made, m.idx ≠ x.idx) ∨
  (wanted (wr (fun i => some (val i)) p slots0) x.op.guard = some true ∧
    ((∃ q, x.op.op = .q q ∧ evQ (withObjs D.S x.op.anc.testBit D.made) (rdS (wr (fun i => some (val i)) p slots0)) q = some (val x.idx) ∧
        (q.reads = true → ⟨x.idx, x.op.anc, wr (fun i => some (val i)) p slots0, q, val x.idx⟩ ∈ D.chk)) ∨
     (∃ m ob f, x.op.op = .m m ∧ (∀ S, evM S (rdS (wr (fun i => some (val i)) p slots0)) m = some (ob, f)) ∧ val x.idx = f.val (base + x.idx) ∧ ⟨x.idx, base + x.idx, ob⟩ ∈ D.made)))

structure Ev (base : Nat) (slots0 : PM AVal) (fr0 : Fr) (pre : List DOp) (D : Dr) (val : Nat → AVal) (B : Nat → Bool) : Prop where
  slots : D.fr.slots = wr (fun i => some (val i)) pre slots0
  defs : D.fr.defers = fr0.defers
  rnd : D.fr.rnd = fr0.rnd
  made : ∀ m ∈ D.made, m.id = base + m.idx ∧ B m.idx = false ∧ ∃ x ∈ pre, x.idx = m.idx ∧ ∃ o, x.op.op = .m o
  nodup : NodupI D.made
  fact : ∀ p x q, pre = p ++ x :: q → B x.idx = false → Fact base slots0 D val p x

section
variable {P : Program} {N : Nat} {ops : Array Oper} {L : List DOp} {base : Nat} {slots0 : PM AVal} {fr0 : Fr} {B : Nat → Bool} {call : CallT Prop} {K : AExit → Fr → St → Prop}

theorem snoc_split {α : Type} {pre p q : List α} {x y : α} (h : pre ++ [x] = p ++ y :: q) : (q = [] ∧ p = pre ∧ y = x) ∨ ∃ q', q = q' ++ [x] ∧ pre = p ++ y :: q' := by
  rcases List.eq_nil_or_concat q with rfl | ⟨q', z, rfl⟩
  · obtain ⟨h1, h2⟩ := List.append_inj' h rfl
    simp only [List.cons.injEq, and_true] at h2
    exact .inl ⟨rfl, h1.symm, h2.symm⟩
  · right
    rw [List.concat_eq_append] at h ⊢
    have h' : pre ++ [x] = (p ++ y :: q') ++ [z] := by simpa using h
    obtain ⟨h1, h2⟩ := List.append_inj' h' rfl
    simp only [List.cons.injEq, and_true] at h2
    subst h2
    exact ⟨q', rfl, h1⟩

def upd (val : Nat → AVal) (i : Nat) (v : AVal) : Nat → AVal := fun j => if j = i then v else val j

theorem upd_self (val : Nat → AVal) (i : Nat) (v : AVal) : upd val i v i = v := by simp [upd]
theorem upd_ne (val : Nat → AVal) {i j : Nat} (v : AVal) (h : j ≠ i) : upd val i v j = val j := by simp [upd, h]

theorem wr_upd {val : Nat → AVal} {i : Nat} {v : AVal} (p : List DOp) (s : PM AVal) (h : ∀ y ∈ p, y.idx ≠ i) : wr (fun j => some (upd val i v j)) p s = wr (fun j => some (val j)) p s :=
  wr_eq p s fun y hy => by rw [upd_ne val v (h y hy)]

/-- One operation without an effect. -/
theorem Ev.step (hL : LOk P N ops L) {pre rest : List DOp} {x : DOp} (hx : L = pre ++ x :: rest) {D : Dr} {val : Nat → AVal} (hE : Ev base slots0 fr0 pre D val B) (hB : B x.idx = false) (hne : x.op.isEff = false ∨ wanted D.fr.slots x.op.guard = some false)
    (h : evDraw badP allP call base L (x :: rest) D K) :
    ∃ D' val', Ev base slots0 fr0 (pre ++ [x]) D' val' B ∧ evDraw badP allP call base L rest D' K ∧ (∀ y ∈ pre, val' y.idx = val y.idx) ∧ D'.S = D.S ∧
      (D'.made = D.made ∨ ∃ ob, D'.made = ⟨x.idx, base + x.idx, ob⟩ :: D.made) := by
  have hnp : ∀ y ∈ pre, y.idx ≠ x.idx := hL.dup pre x rest hx
  -- what was known stays known
  have old : ∀ {D' : Dr} {v : AVal}, D'.S = D.S → (D'.made = D.made ∨ ∃ ob, D'.made = ⟨x.idx, base + x.idx, ob⟩ :: D.made) → (∀ c ∈ D.chk, c ∈ D'.chk) →
      ∀ p y q, pre = p ++ y :: q → Fact base slots0 D val p y → Fact base slots0 D' (upd val x.idx v) p y := by
    intro D' v hS hm hc p y q hp hF
    have hyx : y.idx ≠ x.idx := hnp y (by rw [hp]; simp)
    have hpx : ∀ z ∈ p, z.idx ≠ x.idx := fun z hz => hnp z (by rw [hp]; simp [hz])
    have hw : withObjs D'.S y.op.anc.testBit D'.made = withObjs D.S y.op.anc.testBit D.made := by
      rw [hS]
      rcases hm with hm | ⟨ob, hm⟩
      · rw [hm]
      · rw [hm]
        simp only [withObjs]
        rw [hL.not_anc (p := p) (q := q ++ x :: rest) (x := y) (y := x) (by rw [hx, hp]; simp) (.inr (by simp))]
    unfold Fact
    rw [wr_upd p slots0 hpx, upd_ne val v hyx, hw]
    rcases hF with ⟨h1, h2, h3⟩ | ⟨h1, h2⟩
    · refine .inl ⟨h1, h2, fun m hmm => ?_⟩
      rcases hm with hm | ⟨ob, hm⟩
      · rw [hm] at hmm; exact h3 m hmm
      · rw [hm] at hmm
        rcases List.mem_cons.1 hmm with rfl | hmm
        · exact Ne.symm hyx
        · exact h3 m hmm
    · refine .inr ⟨h1, ?_⟩
      rcases h2 with ⟨q', k1, k2, k3⟩ | ⟨m, ob, f, k1, k2, k3, k4⟩
      · exact .inl ⟨q', k1, k2, fun hr => hc _ (k3 hr)⟩
      · refine .inr ⟨m, ob, f, k1, k2, k3, ?_⟩
        rcases hm with hm | ⟨ob', hm⟩
        · rw [hm]; exact k4
        · rw [hm]; exact List.mem_cons_of_mem _ k4
  -- the steps
  have fin : ∀ {D' : Dr} {v : AVal}, D'.S = D.S → (D'.made = D.made ∨ ∃ ob, D'.made = ⟨x.idx, base + x.idx, ob⟩ :: D.made) → (∀ c ∈ D.chk, c ∈ D'.chk) →
      D'.fr = D.fr.setD x.op.dst v → ((∃ ob, D'.made = ⟨x.idx, base + x.idx, ob⟩ :: D.made) → ∃ o, x.op.op = .m o) →
      Fact base slots0 D' (upd val x.idx v) pre x → Ev base slots0 fr0 (pre ++ [x]) D' (upd val x.idx v) B := by
    intro D' v hS hm hc hfr hmo hF
    refine ⟨?_, by rw [hfr]; exact hE.defs, by rw [hfr]; exact hE.rnd, ?_, ?_, ?_⟩
    · rw [hfr, wr_append, wr_upd pre slots0 hnp, ← hE.slots]
      simp only [wr, upd_self, Fr.setD]
    · intro m hmm
      have : m ∈ D.made ∨ ∃ ob, m = ⟨x.idx, base + x.idx, ob⟩ ∧ ∃ o, x.op.op = .m o := by
        rcases hm with hm | ⟨ob, hm⟩
        · rw [hm] at hmm; exact .inl hmm
        · have ho := hmo ⟨ob, hm⟩
          rw [hm] at hmm
          rcases List.mem_cons.1 hmm with h | h
          · exact .inr ⟨ob, h, ho⟩
          · exact .inl h
      rcases this with hmm | ⟨ob, rfl, ho⟩
      · obtain ⟨k1, k2, y, k3, k4⟩ := hE.made m hmm
        exact ⟨k1, k2, y, by simp [k3], k4⟩
      · exact ⟨rfl, hB, x, by simp, rfl, ho⟩
    · rcases hm with hm | ⟨ob, hm⟩
      · rw [hm]; exact hE.nodup
      · rw [hm]
        refine List.pairwise_cons.2 ⟨fun m hmm => ?_, hE.nodup⟩
        obtain ⟨k1, _, y, k3, k4, _⟩ := hE.made m hmm
        have := hnp y k3
        simp only [k1]
        omega
    · intro p y q hp hBy
      rcases snoc_split hp with ⟨rfl, rfl, rfl⟩ | ⟨q', rfl, hp'⟩
      · exact hF
      · exact old hS hm hc p y q' hp' (hE.fact p y q' hp' hBy)
  have keep : ∀ {v : AVal}, ∀ y ∈ pre, upd val x.idx v y.idx = val y.idx := fun y hy => upd_ne val _ (hnp y hy)
  obtain ⟨i, o⟩ := x
  simp only [evDraw] at h
  rw [hE.slots] at h hne
  split at h
  · rename_i hw
    refine ⟨_, upd val i (.tup []), ?_, h, keep, rfl, .inl rfl⟩
    refine fin rfl (.inl rfl) (fun c hc => hc) rfl (fun ⟨ob, e⟩ => by simp [Dr.put] at e) (.inl ⟨?_, upd_self _ _ _, fun m hm => ?_⟩)
    · rw [wr_upd pre slots0 hnp]; exact hw
    · obtain ⟨_, _, y, k3, k4, _⟩ := hE.made m hm
      rw [← k4]; exact hnp y k3
  · rename_i hw
    split at h
    · rename_i q hop
      split at h
      · exact h.elim
      · rename_i v hv
        have e1 : (D.noted i o.anc q v).S = D.S := by unfold Dr.noted; split <;> rfl
        have e2 : (D.noted i o.anc q v).made = D.made := by unfold Dr.noted; split <;> rfl
        have e3 : (D.noted i o.anc q v).fr = D.fr := by unfold Dr.noted; split <;> rfl
        have e4 : ∀ c ∈ D.chk, c ∈ (D.noted i o.anc q v).chk := by
          intro c hc; unfold Dr.noted; split
          · exact hc
          · exact List.mem_cons_of_mem _ hc
        refine ⟨_, upd val i v, ?_, h, keep, e1, .inl e2⟩
        refine fin (D' := (D.noted i o.anc q v).put o.dst v) e1 (.inl e2) e4 (by simp only [Dr.put, e3]) (fun ⟨ob, e⟩ => by simp [Dr.put, e2] at e) (.inr ⟨?_, .inl ⟨q, hop, ?_, fun hr => ?_⟩⟩)
        · rw [wr_upd pre slots0 hnp]; exact hw
        · rw [wr_upd pre slots0 hnp, upd_self]
          show evQ (withObjs (D.noted i o.anc q v).S _ (D.noted i o.anc q v).made) _ q = _
          rw [e1, e2]; exact hv
        · rw [wr_upd pre slots0 hnp, upd_self, ← hE.slots]
          simp [Dr.put, Dr.noted, hr]
    · rename_i m hop
      split at h
      · rename_i ob f hr hv
        refine ⟨_, upd val i (f.val (base + i)), ?_, h, keep, rfl, .inr ⟨ob, rfl⟩⟩
        refine fin (D' := Dr.put _ o.dst (f.val (base + i))) rfl (.inr ⟨ob, rfl⟩) (fun c hc => hc) rfl (fun _ => ⟨m, hop⟩) (.inr ⟨?_, .inr ⟨m, ob, f, hop, fun S => ?_, upd_self _ _ _, by simp [Dr.put]⟩⟩)
        · rw [wr_upd pre slots0 hnp]; exact hw
        · rw [wr_upd pre slots0 hnp, ← hv]; exact evM_state hr
      · exact h.elim
    · rename_i e hop
      rcases hne with hne | hne
      · simp [AOper.isEff, hop] at hne
      · rw [hw] at hne; cases hne
    · exact h.elim
  · exact h.elim

/-- As far as the next effect. -/
theorem Ev.run (hL : LOk P N ops L) : ∀ (rest pre : List DOp) (D : Dr) (val : Nat → AVal), L = pre ++ rest → Ev base slots0 fr0 pre D val B → (∀ y ∈ rest, B y.idx = false) → evDraw badP allP call base L rest D K →
    ∃ pre' rest' D' val', L = pre' ++ rest' ∧ (rest' = [] ∨ ∃ e r, rest' = e :: r ∧ e.op.isEff = true ∧ wanted D'.fr.slots e.op.guard ≠ some false) ∧ Ev base slots0 fr0 pre' D' val' B ∧ evDraw badP allP call base L rest' D' K ∧
      (∀ y ∈ pre, y ∈ pre' ∧ val' y.idx = val y.idx) ∧ D'.S = D.S ∧ (∀ y ∈ rest', y ∈ rest) ∧ ∃ more, D'.made = more ++ D.made ∧ ∀ m ∈ more, ∃ y ∈ rest, y.idx = m.idx
  | [], pre, D, val, hLe, hE, hB, h => ⟨pre, [], D, val, hLe, .inl rfl, hE, h, fun y hy => ⟨hy, rfl⟩, rfl, fun _ h => h, [], rfl, fun _ h => nomatch h⟩
  | x :: rest, pre, D, val, hLe, hE, hB, h => by
    by_cases hne : x.op.isEff = true ∧ wanted D.fr.slots x.op.guard ≠ some false
    · exact ⟨pre, x :: rest, D, val, hLe, .inr ⟨x, rest, rfl, hne⟩, hE, h, fun y hy => ⟨hy, rfl⟩, rfl, fun _ h => h, [], rfl, fun _ h => nomatch h⟩
    · have hne : x.op.isEff = false ∨ wanted D.fr.slots x.op.guard = some false := by
        cases hi : x.op.isEff with
        | false => exact .inl rfl
        | true => exact .inr (Decidable.byContradiction fun h => hne ⟨hi, h⟩)
      obtain ⟨D1, val1, k1, k2, k3, k4, k5⟩ := hE.step hL hLe (hB x (by simp)) hne h
      obtain ⟨pre', rest', D', val', m1, m2, m3, m4, m5, m6, m7, more, m8, m9⟩ := Ev.run hL rest (pre ++ [x]) D1 val1 (by rw [hLe]; simp) k1 (fun y hy => hB y (by simp [hy])) k2
      refine ⟨pre', rest', D', val', m1, m2, m3, m4, fun y hy => ?_, m6.trans k4, fun y hy => by simp [m7 y hy], ?_⟩
      · obtain ⟨n1, n2⟩ := m5 y (by simp [hy])
        exact ⟨n1, n2.trans (k3 y hy)⟩
      · rcases k5 with k5 | ⟨ob, k5⟩
        · exact ⟨more, by rw [m8, k5], fun m hm => by obtain ⟨y, h1, h2⟩ := m9 m hm; exact ⟨y, by simp [h1], h2⟩⟩
        · refine ⟨more ++ [⟨x.idx, base + x.idx, ob⟩], by rw [m8, k5]; simp, fun m hm => ?_⟩
          rcases List.mem_append.1 hm with hm | hm
          · obtain ⟨y, h1, h2⟩ := m9 m hm; exact ⟨y, by simp [h1], h2⟩
          · simp only [List.mem_singleton] at hm
            subst hm
            exact ⟨x, by simp, rfl⟩

theorem chkOk_mem {S : St} {made : List Made} {anc : Nat} : ∀ (l : List Chk), chkOk S made anc l = true → ∀ c ∈ l, anc.testBit c.idx = true ∨ agrees S made c.anc c.slots c.op c.v = true
  | [], _, _, h => nomatch h
  | c :: r, h, c', hc' => by
    simp only [chkOk, Bool.and_eq_true, Bool.or_eq_true] at h
    rcases List.mem_cons.1 hc' with rfl | hc'
    · exact h.1
    · exact chkOk_mem r h.2 c' hc'

/-- Behind an effect. -/
theorem Ev.eff (hL : LOk P N ops L) {pre rest : List DOp} {x : DOp} (hx : L = pre ++ x :: rest) {D : Dr} {val : Nat → AVal} (hE : Ev base slots0 fr0 pre D val B) (hne : x.op.isEff = true)
    (hBx : ∀ i, B i = true → x.op.anc.testBit i = true) {S' : St} {v : AVal} {k : Dr → Prop} (h : drawn badP D x.op.anc x.op.dst k v S') :
    ∃ D', k D' ∧ D'.S = S' ∧ D'.made = madeLeft x.op.anc D.made ∧ Ev base slots0 fr0 (pre ++ [x]) D' (upd val x.idx v) (fun i => i == x.idx || x.op.anc.testBit i) := by
  have hnp : ∀ y ∈ pre, y.idx ≠ x.idx := hL.dup pre x rest hx
  unfold drawn at h
  split at h
  · rename_i hck
    refine ⟨_, h, rfl, rfl, ?_⟩
    have hmade : ∀ m, m ∈ madeLeft x.op.anc D.made ↔ m ∈ D.made ∧ x.op.anc.testBit m.idx = false := by
      intro m; simp [madeLeft]
    refine ⟨?_, hE.defs, hE.rnd, ?_, ?_, ?_⟩
    · simp only [Dr.put, wr_append, wr_upd pre slots0 hnp, ← hE.slots, wr, upd_self, Fr.setD]
    · intro m hm
      obtain ⟨h1, h2⟩ := (hmade m).1 hm
      obtain ⟨k1, _, y, k3, k4, k5⟩ := hE.made m h1
      refine ⟨k1, ?_, y, by simp [k3], k4, k5⟩
      simp only [h2, Bool.or_false, beq_eq_false_iff_ne]
      rw [← k4]; exact hnp y k3
    · exact List.Pairwise.filter _ hE.nodup
    · intro p y q hp hBy
      simp only [Bool.or_eq_false_iff, beq_eq_false_iff_ne] at hBy
      rcases snoc_split hp with ⟨rfl, rfl, rfl⟩ | ⟨q', rfl, hp'⟩
      · exact absurd rfl hBy.1
      · have hyx : y.idx ≠ x.idx := hBy.1
        have hpx : ∀ z ∈ p, z.idx ≠ x.idx := fun z hz => hnp z (by rw [hp']; simp [hz])
        have hF := hE.fact p y q' hp' (by
          cases hb : B y.idx with
          | false => rfl
          | true => rw [hBx _ hb] at hBy; cases hBy.2)
        unfold Fact
        rw [wr_upd p slots0 hpx, upd_ne val v hyx]
        rcases hF with ⟨h1, h2, h3⟩ | ⟨h1, h2⟩
        · exact .inl ⟨h1, h2, fun m hm => h3 m ((hmade m).1 hm).1⟩
        · refine .inr ⟨h1, ?_⟩
          rcases h2 with ⟨q1, k1, k2, k3⟩ | ⟨m, ob, f, k1, k2, k3, k4⟩
          · refine .inl ⟨q1, k1, ?_, k3⟩
            cases hr : q1.reads with
            | false => rw [← k2]; exact evQ_state hr
            | true =>
              rcases chkOk_mem _ hck _ (k3 hr) with hc | hc
              · rw [hBy.2] at hc; cases hc
              · simp only [agrees] at hc
                show evQ (withObjs S' y.op.anc.testBit (madeLeft x.op.anc D.made)) _ q1 = _
                cases he : evQ (withObjs S' y.op.anc.testBit (madeLeft x.op.anc D.made)) (rdS (wr (fun i => some (val i)) p slots0)) q1 with
                | none => rw [he] at hc; cases hc
                | some v' => rw [he] at hc; rw [← AVal.same_eq hc]
          · exact .inr ⟨m, ob, f, k1, k2, k3, (hmade _).2 ⟨k4, hBy.2⟩⟩
  · exact h.elim

end
end Go.Rf
