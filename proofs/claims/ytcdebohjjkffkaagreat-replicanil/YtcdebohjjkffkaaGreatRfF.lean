/- Stores and copies: rows that are written where they lie. -/
import Derived.Test.YtcdebohjjkffkaaGreatRfM
import Derived.Laws.CopyRow
namespace Go.Rf
set_option linter.unusedVariables false
set_option linter.unusedSimpArgs false
open Go

section
variable {F : Fo} {ρ : Pl} {S : St} {w w1 : World} {P : Program}

theorem CR.cells {c : Cell} {v : Value} (h : CR F ρ S w P c v) : v.cells = #[v] ∧ v.oneCell' = true := by
  cases c with
  | s c =>
    cases c with
    | d d => cases (show VD _ _ _ _ from h) <;> exact ⟨rfl, rfl⟩
    | ptr id ver off => obtain ⟨_, q, e, _⟩ := h; rw [e]; exact ⟨rfl, rfl⟩
    | ro l => obtain ⟨b, o, vs, e, _⟩ := h; rw [e]; exact ⟨rfl, rfl⟩
    | sl id ver off len cl => obtain ⟨_, q, r, e, _⟩ := h; rw [e]; exact ⟨rfl, rfl⟩
    | mp id => obtain ⟨_, q, e, _⟩ := h; rw [e]; exact ⟨rfl, rfl⟩
    | it id => obtain ⟨_, q, e, _⟩ := h; rw [e]; exact ⟨rfl, rfl⟩
  | fn f g l1 l2 => obtain ⟨q, r, e, _⟩ := h; rw [e]; exact ⟨rfl, rfl⟩
  | yld id => obtain ⟨_, q, e, _⟩ := h; rw [e]; exact ⟨rfl, rfl⟩
  | ifc t g l => obtain ⟨q, e, _⟩ := h; rw [e]; exact ⟨rfl, rfl⟩

theorem All2.right_all {α β : Type} {r : α → β → Prop} {p : β → Prop} (h : ∀ a b, r a b → p b) : ∀ {x : List α} {y : List β}, All2 r x y → ∀ b ∈ y, p b
  | [], [], _, b, hb => by cases hb
  | a :: x, c :: y, ⟨h1, h2⟩, b, hb => by
    cases hb with
    | head => exact h a c h1
    | tail _ hb => exact All2.right_all h h2 b hb

theorem oneCells {cs : List Cell} {vs : List Value} (h : All2 (CR F ρ S w P) cs vs) : ∀ v ∈ vs, v.oneCell' = true := All2.right_all (fun _ _ h => h.cells.2) h

theorem storeCells_run (P : Program) (g o : Nat) (t : TypeId) (lo hi : Nat) : ∀ (vs : List Value) (i : Nat) (cur : Array Value) (w : World), w.heap[g]? = some (.cells cur t (lo, hi)) → (hi ≤ lo ∨ cur.size ≤ lo) →
    o + i + vs.length ≤ cur.size → (∀ v ∈ vs, v.oneCell' = true) →
    (storeCells ⟨g, o, none⟩ vs i).run P w = .ok () (w.setRow g (cur.toList.take (o + i) ++ vs ++ cur.toList.drop (o + i + vs.length)).toArray)
  | [], i, cur, w, hg, _, _, _ => by
    simp only [storeCells, List.append_nil, List.length_nil, Nat.add_zero, List.take_append_drop, Array.toArray_toList]
    rw [setRow_self w g cur t (lo, hi) hg]
    rfl
  | v :: rest, i, cur, w, hg, hfz, hl, h1 => by
    have hi' : o + i < cur.size := by simp at hl; omega
    have hadd : (⟨g, o, none⟩ : Addr).add i = ⟨g, o + i, none⟩ := by unfold Addr.add; split <;> simp_all
    have hcell : w.cell? ⟨g, o + i, none⟩ = some cur[o + i] := by simp [World.cell?, hg, hi']
    have hfro : w.frozen? ⟨g, o + i, none⟩ = false := by
      simp only [World.frozen?, hg, Bool.and_eq_false_iff, decide_eq_false_iff_not]
      omega
    have hst : (store ((⟨g, o, none⟩ : Addr).add i) v).run P w = .ok () (w.setRow g (cur.setIfInBounds (o + i) v)) := by
      rw [hadd, run_store P w _ v _ (h1 v (by simp)), hcell]
      simp [hfro, setCell_eq_setRow w g (o + i) cur t (lo, hi) v hg]
    have ih := storeCells_run P g o t lo hi rest (i + 1) (cur.setIfInBounds (o + i) v) (w.setRow g (cur.setIfInBounds (o + i) v)) (setRow_heap w g cur _ t _ hg) (by simpa using hfz) (by simp at hl ⊢; omega) (fun x hx => h1 x (by simp [hx]))
    simp only [storeCells, Sem.run_bind, hst, Result.andThen_ok, ih, setRow_setRow]
    congr 3
    have e := list_seg_step cur.toList (o + i) v rest (by simp at hl ⊢; omega)
    simpa [Array.toList_setIfInBounds, Nat.add_assoc] using e

theorem seg {α : Type} (pre vs post new : List α) (o : Nat) (h : o + new.length ≤ vs.length) :
    (pre ++ (vs ++ post)).take (pre.length + o) ++ new ++ (pre ++ (vs ++ post)).drop (pre.length + o + new.length) = pre ++ ((vs.take o ++ new ++ vs.drop (o + new.length)) ++ post) := by
  rw [List.take_length_add_append, Nat.add_assoc, List.drop_length_add_append, List.take_append_of_le_length (by omega), List.drop_append_of_le_length (by omega)]
  simp [List.append_assoc]

theorem sameRoom_setRow {g : Nat} {old new : Array Value} {t : TypeId} {fz : Nat × Nat} (hg : w.heap[g]? = some (.cells old t fz)) (hs : old.size ≤ new.size) : SameRoom w (w.setRow g new) g := by
  rintro n ⟨c, e, fz', h1, h2⟩
  rw [hg] at h1; cases h1
  exact ⟨new, t, fz, setRow_heap w g old new t fz hg, by omega⟩

/-- Cells of a row that is one's own are written. -/
theorem row_write (hR : R F ρ S w P) {id sz ver : Nat} {t : TypeId} {cs : List Cell} (hid : S.get id = some (.row t sz ver cs)) (hfl : S.floor ≤ id) {o : Nat} {new : List Value} {ncs : List Cell}
    (hn : All2 (CR F ρ S w P) ncs new) (hfit : o + ncs.length ≤ cs.length) :
    ∃ w', (storeCells ⟨(ρ.at id).1, (ρ.at id).2 + o, none⟩ new).run P w = .ok () w' ∧ R F ρ (S.put id (.row t sz ver (fill o ncs cs))) w' P ∧ Ext ρ S w ρ (S.put id (.row t sz ver (fill o ncs cs))) w' := by
  obtain ⟨hz, c, e, lo, hi, pre, vs, post, h1, h2, h3, h4, h5⟩ := (hR.ob id _ hid).2
  have hl := h5.length
  have hnl := hn.length
  have hc : c.size = pre.length + (vs.length + post.length) := by rw [← Array.length_toList, h3]; simp
  have hrun := storeCells_run P (ρ.at id).1 ((ρ.at id).2 + o) e lo hi new 0 c w h1 h2 (by omega) (oneCells hn)
  simp only [Nat.add_zero] at hrun
  rw [h3, ← h4, seg pre vs post new o (by omega)] at hrun
  refine ⟨_, by rw [← h4]; exact hrun, ?_⟩
  have hne : ∀ b, b ≠ (ρ.at id).1 → (w.setRow (ρ.at id).1 (pre ++ ((vs.take o ++ new ++ vs.drop (o + new.length)) ++ post)).toArray).heap[b]? = w.heap[b]? := fun b hb => setRow_other w _ b _ hb
  have hsz : c.size ≤ (pre ++ ((vs.take o ++ new ++ vs.drop (o + new.length)) ++ post)).toArray.size := by simp; omega
  have hsz' : (pre ++ ((vs.take o ++ new ++ vs.drop (o + new.length)) ++ post)).toArray.size = c.size := by simp; omega
  have hE : Ext ρ S w ρ (S.put id (.row t sz ver (fill o ncs cs))) (w.setRow (ρ.at id).1 (pre ++ ((vs.take o ++ new ++ vs.drop (o + new.length)) ++ post)).toArray) :=
    Ext.turn hR hid rfl rfl rfl (Nat.le_refl _) hfl (setRow_size _ _ _) hne (fun _ => sameRoom_setRow h1 hsz) ⟨rfl, rfl⟩
  refine ⟨R.turn hR hid rfl rfl hE hne ⟨hz, _, e, lo, hi, pre, _, post, setRow_heap w _ c _ e _ h1, by rw [hsz']; exact h2, rfl, h4, ?_⟩, hE⟩
  show All2 _ (cs.take o ++ ncs ++ cs.drop (o + ncs.length)) _
  rw [show cs.drop (o + ncs.length) = cs.drop (o + new.length) from by rw [hnl]]
  exact (((h5.take o).append hn).append (h5.drop _)).mono fun _ _ h => h.ext hE

theorem evStore_ok (hR : R F ρ S w P) {t : TypeId} {sz : Nat} {p v : AVal} {pv vv : Value} {S' : St} (hsz : szOf P t = some sz) (h : evStore S sz p v = some S') (hp : AR F ρ S w P p pv) (hv : AR F ρ S w P v vv) :
    ∃ w', (Instr.storeAt t pv vv).run P w = .ok () w' ∧ R F ρ S' w' P ∧ Ext ρ S w ρ S' w' := by
  unfold evStore at h
  split at h
  · rename_i id ver off y hc
    split at h
    · rename_i t' sz' ver' cs hg
      split at h
      · rename_i hb
        cases h
        simp only [Bool.and_eq_true] at hb
        obtain ⟨⟨⟨h1, h2⟩, h3⟩, h4⟩ := hb
        rw [beq_iff] at h1 h2; rw [ble_iff] at h3 h4
        subst h1
        obtain ⟨_, a, rfl, ha⟩ := hp.cell0 hc
        have ha := (ha sz' ver (.inl ⟨t', cs, hg⟩)).2 rfl
        subst ha
        have hy := VlR.cells hv
        have hyl := hy.length
        obtain ⟨w', g1, g2, g3⟩ := row_write hR hg h4 (o := off) hy (by omega)
        refine ⟨w', ?_, g2, g3⟩
        have e1 : vv.cells.size = sz := by rw [← Array.length_toList, ← hyl, h2]
        simp [Instr.storeAt, Instr.sureAddr, storeVar, run_size hsz, e1, g1]
      · cases h
    · cases h
  · cases h

/-! ## What is appended or copied -/

theorem bytes_flat (s : List Nat) : (s2els s).flatten = s.map fun (n : Nat) => dc (.int .u8 (n : Int)) := by
  unfold s2els
  induction s with
  | nil => rfl
  | cons a s ih => simp only [List.map_cons, List.flatten_cons, ih]; rfl

theorem run_first {a : Option Addr} {n cap k sz : Nat} {vs : List Value} (hl : vs.length = n * sz) (hk : k ≤ n) (h0 : sz ≠ 0) (h : vs ≠ [] → ∃ b off, a = some ⟨b, off, none⟩ ∧ Lies w b off vs) (hw : w1.heap = w.heap) :
    (Builtin.firstCells sz k (.slice a n cap)).run P w1 = .ok (vs.take (k * sz)).toArray w1 := by
  cases vs with
  | nil =>
    have : k = 0 := by
      simp only [List.length_nil] at hl
      have := (Nat.mul_eq_zero.1 hl.symm).resolve_right h0
      omega
    subst this
    cases a with
    | none => simp [Builtin.firstCells]
    | some a => simp [Builtin.firstCells, loadCells, loadCellsFrom]
  | cons v vs =>
    obtain ⟨b, off, rfl, h2⟩ := h (by simp)
    refine run_firstCells_some w1 sz k _ n cap _ ?_ fun j u hj => ?_
    · have : k * sz ≤ n * sz := Nat.mul_le_mul_right _ hk
      rw [List.length_take]; omega
    · have h2' : Lies w1 b off ((v :: vs).take (k * sz)) := (h2.take (k * sz)).congr (by rw [hw])
      have := h2'.cell hj
      unfold Addr.add
      split
      · rename_i h0; subst h0; exact this
      · exact this

theorem run_first_str {b : ByteArray} {k : Nat} (w1 : World) (hk : k ≤ b.size) :
    (Builtin.firstCells 1 k (.string b)).run P w1 = .ok ((b.data.map fun c => Value.int .u8 c.toNat).toList.take (k * 1)).toArray w1 := by
  simp only [Builtin.firstCells]
  show Result.ok _ w1 = _
  congr 1
  apply Array.ext'
  have hs : (b.extract 0 k).data = b.data.extract 0 k := by
    rw [ByteArray.data_extract]
  rw [hs]
  simp

theorem more_ok (hR : R F ρ S w P) {sz : Nat} {d : Cell0} {v : Value} {l : List (List Cell)} (h0 : sz ≠ 0) (h : moreOf S sz d = some l) (hc : C0 F ρ S w d v) :
    (Builtin.lenOf v).run P w = .ok l.length w ∧ (∀ e ∈ l, e.length = sz) ∧ ∃ vs, All2 (CR F ρ S w P) l.flatten vs ∧ vs.length = l.length * sz ∧
      ∀ k w1, k ≤ l.length → w1.heap = w.heap → (Builtin.firstCells sz k v).run P w1 = .ok (vs.take (k * sz)).toArray w1 := by
  unfold moreOf at h
  split at h
  · rename_i s
    split at h
    · rename_i hb
      rw [beq_iff] at hb; subst hb
      cases h
      obtain ⟨b, rfl, rfl⟩ := VD.str_inv hc
      have e1 : (s2els (bytesOf b)).length = b.size := by unfold s2els; rw [List.length_map, bytesOf_length]
      refine ⟨by rw [e1]; rfl, ?_, (b.data.map fun c => Value.int .u8 c.toNat).toList, ?_, ?_, fun k w1 hk _ => run_first_str w1 (by omega)⟩
      · intro e he
        unfold s2els at he
        obtain ⟨n, _, rfl⟩ := List.mem_map.1 he
        rfl
      · rw [bytes_flat]; exact bytes_cells b
      · have : b.data.size = b.size := rfl
        rw [e1]; simp [this]
    · cases h
  · obtain ⟨a, cap, vs, rfl, h1, h2, h3, h4⟩ := elems_ok hR h0 h hc
    have hl : vs.length = l.length * sz := by rw [← h3.length]; exact flatten_len l h2
    exact ⟨rfl, h2, vs, h3, hl, fun k w1 hk hw => run_first hl hk h0 h4 hw⟩

theorem evCopy_ok (hR : R F ρ S w P) {t u ty e : TypeId} {sz : Nat} {x y v : AVal} {xv yv : Value} {S' : St} (ht : P.underlying t = some (.slice e)) (hsz : szOf P e = some sz) (h0 : sz ≠ 0)
    (h : evCopy S sz x y = some (v, S')) (hx : AR F ρ S w P x xv) (hy : AR F ρ S w P y yv) :
    ∃ r w', (Builtin.copy_ #[t, u] ty #[xv, yv]).run P w = .ok r w' ∧ R F ρ S' w' P ∧ Ext ρ S w ρ S' w' ∧ AR F ρ S' w' P v r := by
  unfold evCopy at h
  split at h
  · rename_i id ver off len cl d hc hd
    split at h
    · cases h
    · rename_i more hm
      simp only at h
      split at h
      · rename_i t' sz' ver' cs hg
        split at h
        · rename_i hb
          cases h
          simp only [Bool.and_eq_true] at hb
          obtain ⟨⟨⟨h1, h2⟩, h3⟩, h4⟩ := hb
          rw [beq_iff] at h1 h2; rw [ble_iff] at h3 h4
          subst h1; subst h2
          obtain ⟨_, a, cap, rfl, g1, g2, g3⟩ := hx.cell0 hc
          have hm' : moreOf S sz d = some more := by
            unfold moreOf
            split
            · simp [elems] at hm
            · exact hm
          obtain ⟨k1, k2, vs, k3, k4, k5⟩ := more_ok hR h0 hm' (hy.cell0 hd)
          have hmin : Nat.min more.length len ≤ more.length := Nat.min_le_left _ _
          have hmin2 : Nat.min more.length len ≤ len := Nat.min_le_right _ _
          have k6 := k5 (Nat.min more.length len) w hmin rfl
          have hfl := flatten_take (Nat.min more.length len) more k2
          have hnew : All2 (CR F ρ S w P) (more.take (Nat.min more.length len)).flatten (vs.take (Nat.min more.length len * sz)) := by
            rw [hfl]; exact k3.take _
          have hnl : (more.take (Nat.min more.length len)).flatten.length = Nat.min more.length len * sz := by
            rw [hnew.length, List.length_take]
            have : Nat.min more.length len * sz ≤ more.length * sz := Nat.mul_le_mul_right _ hmin
            omega
          have hfit : off * sz + (more.take (Nat.min more.length len)).flatten.length ≤ cs.length := by
            rw [hnl]
            have : (off + Nat.min more.length len) * sz ≤ (off + len) * sz := Nat.mul_le_mul_right _ (by omega)
            rw [Nat.add_mul] at this
            omega
          obtain ⟨w', q1, q2, q3⟩ := row_write hR hg h3 (o := off * sz) hnew hfit
          have hrun : ∀ (w2 : World), (∀ a', a = some a' → (storeCells a' (vs.take (Nat.min more.length len * sz))).run P w = .ok () w2) → (a = none → w2 = w) →
              (Builtin.copy_ #[t, u] ty #[.slice a len cap, yv]).run P w = .ok (goInt (Nat.min more.length len)) w2 := by
            intro w2 ha hn
            cases a with
            | none => simp [Builtin.copy_, run_und ht, k1, run_size hsz, k6, hn rfl]
            | some a => simp [Builtin.copy_, run_und ht, k1, run_size hsz, k6, ha a rfl]
          have hval : AR F ρ (S.put id (.row t' sz ver (fill (off * sz) (more.take (Nat.min more.length len)).flatten cs))) w' P (dv (.int .i64 (Nat.min more.length len : Nat))) (goInt (Nat.min more.length len)) := VD.int _ _
          refine ⟨_, w', hrun w' ?_ ?_, q2, q3, hval⟩
          · intro a' ha'
            by_cases hz : Nat.min more.length len = 0
            · rw [hz, Nat.zero_mul, List.take_zero] at q1 ⊢
              exact q1
            · have hcap : 0 < cap := by omega
              have := ((g3 sz ver (.inl ⟨t', cs, hg⟩)).2 rfl hcap).1
              rw [ha'] at this; cases this
              exact q1
          · intro ha'
            by_cases hz : Nat.min more.length len = 0
            · rw [hz, Nat.zero_mul, List.take_zero] at q1
              cases q1; rfl
            · have hcap : 0 < cap := by omega
              have := ((g3 sz ver (.inl ⟨t', cs, hg⟩)).2 rfl hcap).1
              rw [ha'] at this; cases this
        · cases h
      · cases h
  · cases h

end
end Go.Rf
