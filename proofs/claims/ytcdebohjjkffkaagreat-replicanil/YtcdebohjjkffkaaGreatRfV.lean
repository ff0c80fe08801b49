/- Looking into maps; places in memory; and all quiet operations in one. -/
import Derived.Test.YtcdebohjjkffkaaGreatRfU
namespace Go.Rf
set_option linter.unusedVariables false
set_option linter.unusedSimpArgs false
open Go

section
variable {F : Fo} {ρ : Pl} {S : St} {w : World} {P : Program}

/-! ## Keys -/

theorem keyOf_ok {k : KeyK} {x : Vl} {key : List Dat} {v : Value} (h : keyOf k x = some key) (hx : VlR F ρ S w P x v) : KeyR k key v := by
  unfold keyOf at h
  split at h
  · rename_i q q' n
    split at h
    · rename_i hk
      have := kEq_iff.1 hk; subst this
      cases h
      exact ⟨n, rfl, VD.int_inv hx⟩
    · cases h
  · rename_i s
    cases h
    obtain ⟨b, rfl, rfl⟩ := VD.str_inv hx
    exact ⟨b, rfl, rfl⟩
  · rename_i n cs
    split at h
    · rename_i l hl
      split at h
      · rename_i hf
        simp only [Option.some.injEq] at h; subst h
        rw [Bool.and_eq_true, beq_iff] at hf
        obtain ⟨a, rfl, ha⟩ := hx
        have e := dats_eq _ _ hl
        subst e
        have ha := All2.map_left.1 ha
        have aux : ∀ (l : List Dat) (vs : List Value), l.all isStr = true → All2 (VD w (Ro F ρ S w)) l vs → ∃ bs : List ByteArray, l = bs.map (fun b => .str (bytesOf b)) ∧ vs = bs.map Value.string := by
          intro l
          induction l with
          | nil => intro vs _ h; cases h.nil_inv; exact ⟨[], rfl, rfl⟩
          | cons d l ih =>
            intro vs hs h
            obtain ⟨b, vs', rfl, h1, h2⟩ := h.cons_inv
            simp only [List.all_cons, Bool.and_eq_true] at hs
            obtain ⟨bs, rfl, rfl⟩ := ih vs' hs.2 h2
            cases d <;> simp [isStr] at hs
            obtain ⟨u, rfl, rfl⟩ := h1.str_inv
            exact ⟨u :: bs, rfl, rfl⟩
        obtain ⟨bs, rfl, h2⟩ := aux l a.toList hf.2 ha
        refine ⟨bs, by simpa using hf.1, rfl, ?_⟩
        rw [← h2]
      · cases h
    · cases h
  · cases h

theorem keyVl_ok {k : KeyK} {key : List Dat} {v : Value} (h : KeyR k key v) : ∃ kv, keyVl k key = some kv ∧ VlR F ρ S w P kv v := by
  cases k with
  | int q => obtain ⟨n, rfl, rfl⟩ := h; exact ⟨_, rfl, VD.int _ _⟩
  | str => obtain ⟨b, rfl, rfl⟩ := h; exact ⟨_, rfl, VD.str _⟩
  | strs n =>
    obtain ⟨bs, _, rfl, rfl⟩ := h
    refine ⟨_, rfl, _, rfl, ?_⟩
    rw [All2.map_left, All2.map_left]
    show All2 _ bs (bs.map Value.string)
    rw [All2.map_right]
    exact All2.of_get rfl fun k a b h1 h2 => by rw [h1] at h2; cases h2; exact VD.str _

theorem run_each {f : Nat → Sem (ForInStep PUnit)} : ∀ (j i : Nat), (∀ k, i ≤ k → k < i + j → (f k).run P w = .ok (.yield PUnit.unit) w) →
    (forIn (List.range' i j) PUnit.unit fun k _ => f k).run P w = .ok PUnit.unit w
  | 0, i, _ => by simp
  | j + 1, i, h => by
    simp only [List.range'_succ, List.forIn_cons, Sem.run_bind, h i (Nat.le_refl _) (by omega), Result.andThen_ok]
    exact run_each j (i + 1) fun k h1 h2 => h k (by omega) (by omega)

/-- The type of keys. -/
theorem run_checkKey {k : KeyK} {t : TypeId} {key : List Dat} {v : Value} (hk : keyK P t = some k) (h : KeyR k key v) (e : Bool) (n : Nat) :
    (Instr.checkKey e (n + 2) t v).run P w = .ok () w := by
  have strk : ∀ (m : Nat) (u : TypeId) (b : ByteArray), P.underlying u = some .string → (Instr.checkKey e (m + 1) u (.string b)).run P w = .ok () w := by
    intro m u b hu; simp [Instr.checkKey, run_und hu]
  unfold keyK at hk
  split at hk
  · rename_i q hu
    cases hk
    obtain ⟨n', rfl, rfl⟩ := h
    simp [Instr.checkKey, run_und hu]
  · rename_i hu
    cases hk
    obtain ⟨b, rfl, rfl⟩ := h
    exact strk _ _ _ hu
  · rename_i m el hu
    split at hk
    · rename_i hue hse
      cases hk
      obtain ⟨bs, hl, rfl, rfl⟩ := h
      have ha : isAggT P el = some false := by unfold isAggT; rw [hue]
      rw [show n + 2 = (n + 1) + 1 from rfl, Instr.checkKey]
      simp only [Sem.run_bind, run_und hu, Result.andThen_ok]
      rw [Std.Legacy.Range.forIn_eq_forIn_range']
      simp only [Std.Legacy.Range.size, Nat.sub_zero, Nat.add_sub_cancel, Nat.div_one]
      rw [run_each]
      · rfl
      · intro i _ hi
        have hlt : i < bs.length := by omega
        have hp : (part el (bs.map Value.string).toArray (i * 1)).run P w = .ok (.string bs[i]) w := run_part_one ha (by simp [hlt])
        simp only [Sem.run_bind, run_size hse, Result.andThen_ok, hp, strk _ _ _ hue, Sem.run_pure]
    · cases hk
  · cases hk

theorem bytes_beq (a b : ByteArray) : (a == b) = strEq (bytesOf a) (bytesOf b) := by
  rw [strEq_bytes, beq_toListBytes]

theorem keyEq_strs : ∀ (as bs : List ByteArray), as.length = bs.length →
    PairEq (List.replicate as.length SK.str) (as.map Value.string) (bs.map Value.string) (keyEq (as.map fun b => .str (bytesOf b)) (bs.map fun b => .str (bytesOf b))) := by
  have key : ∀ (as bs : List ByteArray), as.length = bs.length → ∃ r, scalarsEq (as.map fun b => .str (bytesOf b)) (bs.map fun b => .str (bytesOf b)) = some r ∧
      PairEq (List.replicate as.length SK.str) (as.map Value.string) (bs.map Value.string) r := by
    intro as
    induction as with
    | nil => intro bs h; cases bs with
      | nil => exact ⟨true, rfl, rfl⟩
      | cons b bs => simp at h
    | cons a as ih =>
      intro bs h
      cases bs with
      | nil => simp at h
      | cons b bs =>
        obtain ⟨r, h1, h2⟩ := ih bs (by simpa using h)
        cases he : strEq (bytesOf a) (bytesOf b) with
        | true =>
          refine ⟨r, by simp [scalarsEq, scalarEq, he, h1], true, r, ?_, h2, by simp⟩
          show true = _
          rw [← strEq_bytes, he]
        | false =>
          refine ⟨false, by simp [scalarsEq, scalarEq, he, h1], false, r, ?_, h2, by simp⟩
          show false = _
          rw [← strEq_bytes, he]
  intro as bs h
  obtain ⟨r, h1, h2⟩ := key as bs h
  unfold keyEq
  rw [h1]
  exact h2

/-- Where a key stands among entries, told by both sides. -/
def Found (key : List Dat) (es : List AEnt) (ms : List MapEntry) (i0 : Nat) : Option (Nat × Value) → Prop
  | none => findKey key es = none ∧ (∀ e ∈ es, keyEq key e.key = false)
  | some (i, v) => i0 ≤ i ∧ ∃ e m, es[i - i0]? = some e ∧ ms[i - i0]? = some m ∧ v = m.val ∧ findKey key es = some e.val ∧ keyEq key e.key = true ∧
      ∀ j e', j < i - i0 → es[j]? = some e' → keyEq key e'.key = false

theorem Found.skip {key : List Dat} {e : AEnt} {m : MapEntry} {es : List AEnt} {ms : List MapEntry} {i0 : Nat} {r : Option (Nat × Value)} (hne : keyEq key e.key = false) (h : Found key es ms (i0 + 1) r) :
    Found key (e :: es) (m :: ms) i0 r := by
  cases r with
  | none => exact ⟨by simp only [findKey, hne]; exact h.1, fun e' he => by
      cases List.mem_cons.1 he with
      | inl h => subst h; exact hne
      | inr h' => exact h.2 e' h'⟩
  | some p =>
    obtain ⟨i, v⟩ := p
    obtain ⟨hle, e1, m1, h1, h2, h3, h4, h5, h6⟩ := h
    have hi : i - i0 = (i - (i0 + 1)) + 1 := by omega
    refine ⟨by omega, e1, m1, by rw [hi]; exact h1, by rw [hi]; exact h2, h3, by simp only [findKey, hne]; exact h4, h5, fun j e' hj he' => ?_⟩
    cases j with
    | zero => simp at he'; subst he'; exact hne
    | succ j => exact h6 j e' (by omega) (by simpa using he')

theorem Found.here {key : List Dat} {e : AEnt} {m : MapEntry} {es : List AEnt} {ms : List MapEntry} {i0 : Nat} (he : keyEq key e.key = true) :
    Found key (e :: es) (m :: ms) i0 (some (i0, m.val)) :=
  ⟨Nat.le_refl _, e, m, by simp, by simp, rfl, by simp [findKey, he], he, fun j _ hj => by omega⟩

theorem run_findKey {k : KeyK} {t : TypeId} {key : List Dat} {v : Value} (hk : keyK P t = some k) (h : KeyR k key v) {es : List AEnt} {ms : List MapEntry} (hes : All2 (EntR F ρ S w P k) es ms) :
    ∃ r, (Instr.findKey t v ms).run P w = .ok r w ∧ Found key es ms 0 r := by
  unfold keyK at hk
  split at hk
  · rename_i q hu
    cases hk
    obtain ⟨n, rfl, rfl⟩ := h
    have : ∀ (es : List AEnt) (ms : List MapEntry) (i : Nat), All2 (EntR F ρ S w P (.int q)) es ms → ∃ r, Instr.findNow (.int q) (.int q n) ms i = some r ∧ Found [.int q n] es ms i r := by
      intro es
      induction es with
      | nil => intro ms i h; cases h.nil_inv; exact ⟨none, rfl, rfl, fun e he => by cases he⟩
      | cons e es ih =>
        intro ms i h
        obtain ⟨m, ms', rfl, h1, h2⟩ := h.cons_inv
        obtain ⟨_, ⟨n', hk1, hk2⟩, _⟩ := h1
        have hq : keyEq [.int q n] e.key = (n == n') := by rw [hk1]; simp only [keyEq, scalarsEq, scalarEq, kEq_iff.2 rfl, iEq_eq]; cases (n == n') <;> rfl
        cases hb : (n == n') with
        | true => exact ⟨some (i, m.val), by simp [Instr.findNow, Instr.sameNow, hk2, hb], Found.here (hq.trans hb)⟩
        | false =>
          obtain ⟨r, h3, h4⟩ := ih ms' (i + 1) h2
          exact ⟨r, by simp [Instr.findNow, Instr.sameNow, hk2, hb, h3], Found.skip (hq.trans hb) h4⟩
    obtain ⟨r, h1, h2⟩ := this es ms 0 hes
    exact ⟨r, by simp [Instr.findKey, run_und hu, h1], h2⟩
  · rename_i hu
    cases hk
    obtain ⟨b, rfl, rfl⟩ := h
    have : ∀ (es : List AEnt) (ms : List MapEntry) (i : Nat), All2 (EntR F ρ S w P .str) es ms → ∃ r, Instr.findNow .string (.string b) ms i = some r ∧ Found [.str (bytesOf b)] es ms i r := by
      intro es
      induction es with
      | nil => intro ms i h; cases h.nil_inv; exact ⟨none, rfl, rfl, fun e he => by cases he⟩
      | cons e es ih =>
        intro ms i h
        obtain ⟨m, ms', rfl, h1, h2⟩ := h.cons_inv
        obtain ⟨_, ⟨b', hk1, hk2⟩, _⟩ := h1
        have hq : keyEq [.str (bytesOf b)] e.key = (b == b') := by rw [hk1, bytes_beq]; simp only [keyEq, scalarsEq, scalarEq]; cases (strEq (bytesOf b) (bytesOf b')) <;> rfl
        cases hb : (b == b') with
        | true => exact ⟨some (i, m.val), by simp [Instr.findNow, Instr.sameNow, hk2, hb], Found.here (hq.trans hb)⟩
        | false =>
          obtain ⟨r, h3, h4⟩ := ih ms' (i + 1) h2
          exact ⟨r, by simp [Instr.findNow, Instr.sameNow, hk2, hb, h3], Found.skip (hq.trans hb) h4⟩
    obtain ⟨r, h1, h2⟩ := this es ms 0 hes
    exact ⟨r, by simp [Instr.findKey, run_und hu, h1], h2⟩
  · rename_i m el hu
    split at hk
    · rename_i hue hse
      cases hk
      obtain ⟨bs, hl, rfl, rfl⟩ := h
      have hsk : sksOf P 8 t = some (List.replicate m SK.str) := by
        have he : sksOf P 7 el = some [.str] := by simp only [sksOf, hue]
        show sksOf P (7 + 1) t = _
        simp only [sksOf, hu]
        have he' := he
        simp only [sksOf, hue] at he'
        simp only [hue, hse]
        simp [List.flatten_replicate_singleton]
      have hag : isAggT P t = some true := by unfold isAggT; rw [hu]
      have heq := (equalIn_ok (P := P) (w := w) 8 t _ (9999 + 1) hsk (by omega)).1 hag
      have hask : ∀ (es : List AEnt) (ms : List MapEntry) (i : Nat), All2 (EntR F ρ S w P (.strs m)) es ms →
          ∃ r, (Instr.findAsking t (.agg (bs.map Value.string).toArray) ms i).run P w = .ok r w ∧ Found (bs.map fun b => .str (bytesOf b)) es ms i r := by
        intro es
        induction es with
        | nil => intro ms i h; cases h.nil_inv; exact ⟨none, rfl, rfl, fun e he => by cases he⟩
        | cons e es ih =>
          intro ms i h
          obtain ⟨me, ms', rfl, h1, h2⟩ := h.cons_inv
          obtain ⟨_, ⟨bs', hl', hk1, hk2⟩, _⟩ := h1
          have hp := keyEq_strs bs bs' (by omega)
          rw [← hk1, hl] at hp
          have hrun := heq (bs.map Value.string).toArray (bs'.map Value.string).toArray _ hp
          have hrun : (Op.equal t (.agg (bs.map Value.string).toArray) me.key).run P w = .ok (keyEq (bs.map fun b => .str (bytesOf b)) e.key) w := by rw [hk2, equal_eq]; exact hrun
          cases hb : keyEq (bs.map fun b => .str (bytesOf b)) e.key with
          | true => exact ⟨some (i, me.val), by simp only [Instr.findAsking, Sem.run_bind, hrun, hb, Result.andThen_ok, if_true]; rfl, Found.here hb⟩
          | false =>
            obtain ⟨r, h3, h4⟩ := ih ms' (i + 1) h2
            exact ⟨r, by simp only [Instr.findAsking, Sem.run_bind, hrun, hb, Result.andThen_ok, Bool.false_eq_true, if_false]; exact h3, Found.skip hb h4⟩
      cases es with
      | nil => cases hes.nil_inv; exact ⟨none, by simp [Instr.findKey, run_und hu, Instr.findNow], rfl, fun e he => by cases he⟩
      | cons e es =>
        obtain ⟨r, h3, h4⟩ := hask (e :: es) ms 0 hes
        obtain ⟨me, ms', rfl, h1, h2⟩ := hes.cons_inv
        obtain ⟨_, ⟨bs', hl', hk1, hk2⟩, _⟩ := h1
        exact ⟨r, by simp only [Instr.findKey, Sem.run_bind, run_und hu, Result.andThen_ok, Instr.findNow, Instr.sameNow]; exact h3, h4⟩
    · cases hk
  · cases hk

theorem VD.nilm_inv {ro : Nat → Prop} {v : Value} (h : VD w ro .nilm v) : v = .map none := by cases h; rfl

theorem run_getObj {r : Nat} {o : Obj} (h : w.heap[r]? = some o) (hc : ∀ c e f, o ≠ .cells c e f) : (getObj r).run P w = .ok o w := by
  cases o <;> first
    | exact absurd rfl (hc _ _ _)
    | simp only [getObj, Sem.run, h]

theorem map_ob (hR : R F ρ S w P) {id : Nat} {k : KeyK} {es : List AEnt} {clock : Nat} (h : S.get id = some (.map k es clock)) :
    ∃ ms : Array MapEntry, w.heap[(ρ.at id).1]? = some (.map ms clock) ∧ All2 (EntR F ρ S w P k) es ms.toList := (hR.ob id _ h).2

theorem evLookup_ok (hR : R F ρ S w P) {t kt et : TypeId} {k : KeyK} {zero : Vl} {ok : Bool} {x i y : AVal} {a b : Value} (ht : P.underlying t = some (.map kt et)) (hk : keyK P kt = some k)
    (hz : zeroOf P et = some zero) (h : evLookup S k zero ok x i = some y) (hx : AR F ρ S w P x a) (hi : AR F ρ S w P i b) :
    ∃ u, (Instr.lookup t a b ok).run P w = .ok u w ∧ AR F ρ S w P y u := by
  unfold evLookup at h
  split at h
  · rename_i c iv hc
    split at h
    · rename_i key es hkey hes
      have hkr := keyOf_ok hkey hi
      have hx := hx.cell0 hc
      have hms : ∃ ms : List MapEntry, All2 (EntR F ρ S w P k) es ms ∧ ((a = .map none ∧ ms = []) ∨
          (∃ r mm clock, a = .map (some r) ∧ w.heap[r]? = some (.map mm clock) ∧ mm.toList = ms)) := by
        unfold entsOf at hes
        split at hes
        · cases hes
          exact ⟨[], trivial, .inl ⟨VD.nilm_inv hx, rfl⟩⟩
        · rename_i id
          obtain ⟨_, r, rfl, hr⟩ := hx
          split at hes
          · rename_i k' es' clock hg
            split at hes
            · rename_i hkk
              have := of_decide_eq_true hkk; subst this
              cases hes
              obtain ⟨ms, h1, h2⟩ := map_ob hR hg
              rw [← hr _ hg rfl] at h1
              exact ⟨ms.toList, h2, .inr ⟨r, ms, clock, rfl, h1, rfl⟩⟩
            · cases hes
          · cases hes
        · cases hes
      obtain ⟨ms, h1, h2⟩ := hms
      obtain ⟨r, h3, h4⟩ := run_findKey hk hkr h1
      obtain ⟨z, hz1, hz2⟩ := run_zero hz w
      have hchk := fun e => run_checkKey (P := P) (w := w) hk hkr e 9998
      have key : (Instr.lookup t a b ok).run P w = .ok (match r with
          | some (_, v) => if ok = true then .tuple #[v, .bool true] else v
          | none => if ok = true then .tuple #[z, .bool false] else z) w := by
        rcases h2 with ⟨rfl, rfl⟩ | ⟨q, mm, clock, rfl, hq, rfl⟩
        · simp only [Instr.lookup, Sem.run_bind, run_und ht, Result.andThen_ok, Sem.run_pure, hchk]
          have h3 : (Instr.findKey kt b (#[] : Array MapEntry).toList).run P w = .ok r w := h3
          simp only [h3, Result.andThen_ok]
          cases r with
          | none => simp only [Sem.run_bind, hz1, Result.andThen_ok, Sem.run_pure] <;> cases ok <;> rfl
          | some p => simp only [Sem.run_pure, Result.andThen_ok] <;> cases ok <;> rfl
        · simp only [Instr.lookup, Sem.run_bind, run_und ht, Result.andThen_ok, Sem.run_pure, run_getObj hq (by simp), hchk, h3]
          cases r with
          | none => simp only [Sem.run_bind, hz1, Result.andThen_ok, Sem.run_pure] <;> cases ok <;> rfl
          | some p => simp only [Sem.run_pure, Result.andThen_ok] <;> cases ok <;> rfl
      rw [key]
      cases r with
      | none =>
        simp only [h4.1] at h
        cases ok with
        | true => cases h; exact ⟨_, rfl, _, rfl, vlOf_ok hz2, VD.bool false, trivial⟩
        | false => cases h; exact ⟨_, rfl, vlOf_ok hz2⟩
      | some p =>
        obtain ⟨j, v⟩ := p
        obtain ⟨_, e, m, h5, h6, h7, h8, _⟩ := h4
        simp only [h8] at h
        subst h7
        have hv := (h1.get _ e m h5 h6).2.2
        cases ok with
        | true => cases h; exact ⟨_, rfl, _, rfl, hv, VD.bool true, trivial⟩
        | false => cases h; exact ⟨_, rfl, hv⟩
    · cases h
  · cases h

end
end Go.Rf
