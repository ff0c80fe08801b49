/- Effects on maps, and the steps of walks. -/
import Derived.Test.YtcdebohjjkffkaaGreatRfH
namespace Go.Rf
set_option linter.unusedVariables false
set_option linter.unusedSimpArgs false
open Go

section
variable {F : Fo} {ρ : Pl} {S : St} {w w' w1 : World} {P : Program}

def World.put (w : World) (b : Nat) (o : Obj) : World := { w with heap := w.heap.setIfInBounds b o }

theorem put_get (w : World) (b : Nat) (o : Obj) {old : Obj} (h : w.heap[b]? = some old) : (World.put w b o).heap[b]? = some o := by
  have hlt : b < w.heap.size := (Array.getElem?_eq_some_iff.1 h).1
  simp [World.put, hlt]

theorem put_ne (w : World) (b : Nat) (o : Obj) {k : Nat} (h : k ≠ b) : (World.put w b o).heap[k]? = w.heap[k]? := by
  simp only [World.put]
  rw [Array.getElem?_setIfInBounds_ne (Ne.symm h)]

theorem put_size (w : World) (b : Nat) (o : Obj) : (World.put w b o).heap.size = w.heap.size := by simp [World.put]

theorem run_setObj {r : Nat} {old : Obj} (o : Obj) (h : w.heap[r]? = some old) (hc : ∀ c e f, old ≠ .cells c e f) : (setObj r o).run P w = .ok () (World.put w r o) := by
  cases old <;> first
    | exact absurd rfl (hc _ _ _)
    | simp only [setObj, Sem.run, h]; rfl

/-- An object that is no row is turned. -/
theorem obj_turn (hR : R F ρ S w P) {id : Nat} {ob ob' : AObj} {old o : Obj} (hid : S.get id = some ob) (hown : ob.own = true) (hown' : ob'.own = true) (hk : ob.kin ob') (hv : ob.ver ≤ ob'.ver) (hfl : S.floor ≤ id)
    (hold : w.heap[(ρ.at id).1]? = some old) (hc : ∀ c e f, old ≠ .cells c e f)
    (hob : Ext ρ S w ρ (S.put id ob') (World.put w (ρ.at id).1 o) → (World.put w (ρ.at id).1 o).heap[(ρ.at id).1]? = some o → ObR F ρ (S.put id ob') (World.put w (ρ.at id).1 o) P id ob') :
    R F ρ (S.put id ob') (World.put w (ρ.at id).1 o) P ∧ Ext ρ S w ρ (S.put id ob') (World.put w (ρ.at id).1 o) := by
  have hne : ∀ b, b ≠ (ρ.at id).1 → (World.put w (ρ.at id).1 o).heap[b]? = w.heap[b]? := fun b hb => put_ne w _ o hb
  have hE : Ext ρ S w ρ (S.put id ob') (World.put w (ρ.at id).1 o) := Ext.turn hR hid hown hown' hk hv hfl (put_size _ _ _) hne (fun _ n hr => by
    obtain ⟨c, e, fz, h1, _⟩ := hr
    rw [hold] at h1; cases h1
    exact absurd rfl (hc _ _ _)) ⟨rfl, rfl⟩
  exact ⟨R.turn hR hid hown hown' hE hne (hob hE (put_get w _ o hold)), hE⟩

/-! ## Keys -/

theorem bytesOf_inj {a b : ByteArray} (h : bytesOf a = bytesOf b) : a = b := by
  unfold bytesOf at h
  have h2 : a.data.toList = b.data.toList := by
    have key : ∀ (x y : List UInt8), x.map UInt8.toNat = y.map UInt8.toNat → x = y := by
      intro x
      induction x with
      | nil => intro y h; cases y with
        | nil => rfl
        | cons _ _ => simp at h
      | cons a x ih => intro y h; cases y with
        | nil => simp at h
        | cons b y =>
          simp only [List.map_cons, List.cons.injEq] at h
          rw [ih y h.2, UInt8.toNat_inj.1 h.1]
    exact key _ _ h
  cases a; cases b
  simp only at h2
  congr 1
  exact Array.toList_inj.1 h2

theorem strEq_iff {a b : List Nat} : strEq a b = true ↔ a = b := by rw [strEq_eq]; simp

theorem key_same {k : KeyK} {key key' : List Dat} {v v' : Value} (h : KeyR k key v) (h' : KeyR k key' v') (he : keyEq key key' = true) : v = v' := by
  cases k with
  | int q =>
    obtain ⟨n, rfl, rfl⟩ := h
    obtain ⟨n', rfl, rfl⟩ := h'
    simp only [keyEq, scalarsEq, scalarEq, kEq_iff.2 rfl, iEq_eq] at he
    cases hb : (n == n') with
    | true => rw [eq_of_beq hb]
    | false => rw [hb] at he; simp at he
  | str =>
    obtain ⟨b, rfl, rfl⟩ := h
    obtain ⟨b', rfl, rfl⟩ := h'
    simp only [keyEq, scalarsEq, scalarEq] at he
    cases hb : strEq (bytesOf b) (bytesOf b') with
    | true => rw [bytesOf_inj (strEq_iff.1 hb)]
    | false => rw [hb] at he; simp at he
  | strs n =>
    obtain ⟨bs, hl, rfl, rfl⟩ := h
    obtain ⟨bs', hl', rfl, rfl⟩ := h'
    have : bs = bs' := by
      clear hl hl'
      induction bs generalizing bs' with
      | nil =>
        cases bs' with
        | nil => rfl
        | cons _ _ => simp [keyEq, scalarsEq] at he
      | cons b bs ih =>
        cases bs' with
        | nil => simp [keyEq, scalarsEq] at he
        | cons b' bs' =>
          simp only [keyEq, List.map_cons, scalarsEq, scalarEq] at he
          cases hb : strEq (bytesOf b) (bytesOf b') with
          | true =>
            rw [hb] at he
            rw [bytesOf_inj (strEq_iff.1 hb), ih bs' he]
          | false =>
            rw [hb] at he
            simp only at he
            split at he
            · rename_i r hr
              split at hr <;> cases hr
              cases he
            · cases he
    rw [this]

theorem zip_self_all {p : Value → Value → Bool} : ∀ (l : List Value), (∀ v ∈ l, p v v = true) → ((l.zip l).all fun (x, y) => p x y) = true
  | [], _ => rfl
  | a :: l, h => by
    simp only [List.zip_cons_cons, List.all_cons, Bool.and_eq_true]
    exact ⟨h a (by simp), zip_self_all l fun v hv => h v (by simp [hv])⟩

theorem sameBits_refl {k : KeyK} {key : List Dat} {v : Value} (h : KeyR k key v) : Instr.sameBits 10000 v v = true := by
  cases k with
  | int q => obtain ⟨n, rfl, rfl⟩ := h; simp [Instr.sameBits]
  | str =>
    obtain ⟨b, rfl, rfl⟩ := h
    show (b == b) = true
    rw [bytes_beq]; exact strEq_iff.2 rfl
  | strs n =>
    obtain ⟨bs, hl, rfl, rfl⟩ := h
    show (_ == _ && _) = true
    rw [Bool.and_eq_true]
    refine ⟨by simp, zip_self_all (p := Instr.sameBits 9999) _ fun v hv => ?_⟩
    obtain ⟨b, _, rfl⟩ := List.mem_map.1 hv
    show (b == b) = true
    rw [bytes_beq]; exact strEq_iff.2 rfl

theorem setKey_eq {key : List Dat} {v : Vl} : ∀ (es : List AEnt) (i : Nat) (e : AEnt), es[i]? = some e → keyEq key e.key = true → (∀ j e', j < i → es[j]? = some e' → keyEq key e'.key = false) →
    setKey key v es = es.set i ⟨key, e.born, v⟩
  | [], i, e, h, _, _ => by simp at h
  | a :: es, 0, e, h, h1, _ => by
    simp at h; subst h
    simp [setKey, h1]
  | a :: es, i + 1, e, h, h1, h2 => by
    have h0 := h2 0 a (by omega) rfl
    simp only [setKey, h0, List.set_cons_succ]
    rw [setKey_eq es i e (by simpa using h) h1 fun j e' hj he => h2 (j + 1) e' (by omega) (by simpa using he)]

theorem delKey_eq {key : List Dat} : ∀ (es : List AEnt) (i : Nat) (e : AEnt), es[i]? = some e → keyEq key e.key = true → (∀ j e', j < i → es[j]? = some e' → keyEq key e'.key = false) →
    delKey key es = es.eraseIdx i
  | [], i, e, h, _, _ => by simp at h
  | a :: es, 0, e, h, h1, _ => by
    simp at h; subst h
    simp [delKey, h1]
  | a :: es, i + 1, e, h, h1, h2 => by
    have h0 := h2 0 a (by omega) rfl
    simp only [delKey, h0, List.eraseIdx_cons_succ]
    rw [delKey_eq es i e (by simpa using h) h1 fun j e' hj he => h2 (j + 1) e' (by omega) (by simpa using he)]

theorem delKey_none {key : List Dat} : ∀ (es : List AEnt), (∀ e ∈ es, keyEq key e.key = false) → delKey key es = es
  | [], _ => rfl
  | a :: es, h => by
    simp only [delKey, h a (by simp)]
    rw [delKey_none es fun e he => h e (by simp [he])]

theorem All2.left_eq {α β : Type} {r : α → β → Prop} {x x' : List α} {y : List β} (h : x = x') (h2 : All2 r x' y) : All2 r x y := h ▸ h2

theorem All2.erase {α β : Type} {r : α → β → Prop} : ∀ {x : List α} {y : List β} (i : Nat), All2 r x y → All2 r (x.eraseIdx i) (y.eraseIdx i)
  | [], [], _, _ => trivial
  | _ :: _, _ :: _, 0, ⟨_, h⟩ => h
  | _ :: _, _ :: _, i + 1, ⟨h1, h⟩ => ⟨h1, All2.erase i h⟩

theorem modify_list {ms : Array MapEntry} {i : Nat} {m : MapEntry} {f : MapEntry → MapEntry} (h : ms.toList[i]? = some m) : (ms.modify i f).toList = ms.toList.set i (f m) := by
  rw [Array.toList_modify]
  apply List.ext_getElem?
  intro j
  rw [List.getElem?_modify, List.getElem?_set]
  by_cases e : i = j
  · subst e
    have hlt : i < ms.toList.length := (List.getElem?_eq_some_iff.1 h).1
    simp [h]
    simpa using hlt
  · simp [e]

theorem evMapup_ok (hR : R F ρ S w P) {t kt et : TypeId} {k : KeyK} {m i v : AVal} {mv iv vv : Value} {S' : St} (ht : P.underlying t = some (.map kt et)) (hk : keyK P kt = some k)
    (h : evMapup S k m i v = some S') (hm : AR F ρ S w P m mv) (hi : AR F ρ S w P i iv) (hv : AR F ρ S w P v vv) :
    ∃ w', (Instr.mapUpdate t mv iv vv).run P w = .ok () w' ∧ R F ρ S' w' P ∧ Ext ρ S w ρ S' w' := by
  unfold evMapup at h
  split at h
  · rename_i id iv' vv' hc
    split at h
    · cases h
    · rename_i key hkey
      cases hs : shutVl S vv' with
      | mk S1 sv =>
      rw [hs] at h
      simp only at h
      obtain ⟨s1, s2, s3⟩ := shutVl_ok hR hs hv
      have hkr := keyOf_ok hkey hi
      split at h
      · rename_i k' es clock hg
        split at h
        · rename_i hb
          rw [Bool.and_eq_true, decide_eq_true_eq, ble_iff] at hb
          obtain ⟨rfl, hfl⟩ := hb
          obtain ⟨_, r, rfl, hr⟩ := C0.ext s2 (hm.cell0 hc)
          have hr := hr _ hg rfl
          subst hr
          obtain ⟨ms, g1, g2⟩ := map_ob s1 hg
          obtain ⟨res, g3, g4⟩ := run_findKey hk hkr g2
          have hchk := fun e => run_checkKey (P := P) (w := w) hk hkr e 9998
          cases res with
          | none =>
            rw [g4.1] at h
            cases h
            obtain ⟨q1, q2⟩ := obj_turn (o := .map (ms.push { key := iv, val := vv, born := clock }) (clock + 1)) (ob' := .map k (es ++ [⟨key, clock, sv⟩]) (Nat.succ clock)) s1 hg rfl rfl trivial (Nat.le_refl _) hfl g1 (by simp)
              (fun hE hb => ⟨_, hb, by
                rw [Array.toList_push]
                exact (g2.mono fun _ _ hh => hh.ext hE).append ⟨⟨rfl, hkr, s3.ext hE⟩, trivial⟩⟩)
            refine ⟨_, ?_, q1, s2.trans q2⟩
            simp [Instr.mapUpdate, run_und ht, run_getObj g1, hchk, g3, run_setObj _ g1]
          | some p =>
            obtain ⟨j, u⟩ := p
            obtain ⟨_, e, me, h5, h6, h7, h8, h9, h10⟩ := g4
            rw [h8] at h
            cases h
            simp only [Nat.sub_zero] at h5 h6 h10
            have he := g2.get _ e me h5 h6
            have hsame : iv = me.key := key_same hkr he.2.1 h9
            obtain ⟨q1, q2⟩ := obj_turn (o := .map (ms.modify j fun e => { e with key := iv, val := vv }) clock) (ob' := .map k (setKey key sv es) clock) s1 hg rfl rfl trivial (Nat.le_refl _) hfl g1 (by simp)
              (fun hE hb => ⟨_, hb, by
                rw [modify_list h6]
                exact All2.left_eq (setKey_eq es j e h5 h9 h10) ((g2.mono fun _ _ hh => hh.ext hE).set j ⟨he.1, hkr, s3.ext hE⟩)⟩)
            refine ⟨_, ?_, q1, s2.trans q2⟩
            have hkeep : (Instr.keyThatStays (((ms[j]?).map (·.key)).getD iv) iv).run P w = .ok iv w := by
              rw [← Array.getElem?_toList, h6]
              simp [Instr.keyThatStays, ← hsame, sameBits_refl hkr]
            simp [Instr.mapUpdate, run_und ht, run_getObj g1, hchk, g3, hkeep, run_setObj _ g1]
        · cases h
      · cases h
  · cases h

theorem evDel_ok (hR : R F ρ S w P) {t kt et ty : TypeId} {ts : Array TypeId} {k : KeyK} {m i : AVal} {mv iv : Value} {S' : St} (hts : ts[0]? = some t) (ht : P.underlying t = some (.map kt et)) (hk : keyK P kt = some k)
    (h : evDel S k m i = some S') (hm : AR F ρ S w P m mv) (hi : AR F ρ S w P i iv) :
    ∃ w', (Builtin.delete_ ts ty #[mv, iv]).run P w = .ok (.tuple #[]) w' ∧ R F ρ S' w' P ∧ Ext ρ S w ρ S' w' := by
  unfold evDel at h
  split at h
  · rename_i id iv' hc
    split at h
    · cases h
    · rename_i key hkey
      have hkr := keyOf_ok hkey hi
      split at h
      · rename_i k' es clock hg
        split at h
        · rename_i hb
          rw [Bool.and_eq_true, decide_eq_true_eq, ble_iff] at hb
          obtain ⟨rfl, hfl⟩ := hb
          cases h
          obtain ⟨_, r, rfl, hr⟩ := hm.cell0 hc
          have hr := hr _ hg rfl
          subst hr
          obtain ⟨ms, g1, g2⟩ := map_ob hR hg
          obtain ⟨res, g3, g4⟩ := run_findKey hk hkr g2
          have hchk := fun e => run_checkKey (P := P) (w := w) hk hkr e 9998
          cases res with
          | none =>
            obtain ⟨q1, q2⟩ := obj_turn (o := .map ms clock) (ob' := .map k (delKey key es) clock) hR hg rfl rfl trivial (Nat.le_refl _) hfl g1 (by simp)
              (fun hE hb => ⟨_, hb, by
                exact All2.left_eq (delKey_none es g4.2) (g2.mono fun _ _ hh => hh.ext hE)⟩)
            refine ⟨_, ?_, q1, q2⟩
            simp [Builtin.delete_, hts, run_und ht, run_getObj g1, hchk, g3, run_setObj _ g1]
          | some p =>
            obtain ⟨j, u⟩ := p
            obtain ⟨_, e, me, h5, h6, h7, h8, h9, h10⟩ := g4
            simp only [Nat.sub_zero] at h5 h6 h10
            obtain ⟨q1, q2⟩ := obj_turn (o := .map (ms.eraseIdxIfInBounds j) clock) (ob' := .map k (delKey key es) clock) hR hg rfl rfl trivial (Nat.le_refl _) hfl g1 (by simp)
              (fun hE hb => ⟨_, hb, by
                have : (ms.eraseIdxIfInBounds j).toList = ms.toList.eraseIdx j := by simp [Array.toList_eraseIdxIfInBounds]
                rw [this]
                exact All2.left_eq (delKey_eq es j e h5 h9 h10) ((g2.mono fun _ _ hh => hh.ext hE).erase j)⟩)
            refine ⟨_, ?_, q1, q2⟩
            simp [Builtin.delete_, hts, run_und ht, run_getObj g1, hchk, g3, run_setObj _ g1]
        · cases h
      · cases h
  · cases h

end
end Go.Rf
