/- All quiet operations in one theorem. -/
import Derived.Test.YtcdebohjjkffkaaGreatRfW
import Derived.Laws.BytesString
import Derived.KernelRfl
namespace Go.Rf
set_option linter.unusedVariables false
set_option linter.unusedSimpArgs false
open Go

section
variable {F : Fo} {ρ : Pl} {S : St} {w : World} {P : Program}

/-! ## A slice's elements -/

theorem elems_ok (hR : R F ρ S w P) {sz : Nat} {c : Cell0} {v : Value} {l : List (List Cell)} (h0 : sz ≠ 0) (h : elems S sz c = some l) (hc : C0 F ρ S w c v) :
    ∃ a cap vs, v = .slice a l.length cap ∧ l.length ≤ cap ∧ (∀ e ∈ l, e.length = sz) ∧ All2 (CR F ρ S w P) l.flatten vs ∧ (vs ≠ [] → ∃ b off, a = some ⟨b, off, none⟩ ∧ Lies w b off vs) := by
  have mapdc : ∀ els : List (List Dat), (∀ e ∈ els, e.length = sz) → (∀ e ∈ els.map (·.map dc), e.length = sz) ∧ (els.map (·.map dc)).flatten = els.flatten.map dc := by
    intro els hall
    refine ⟨fun e he => ?_, by rw [List.map_flatten]⟩
    obtain ⟨e', h1, rfl⟩ := List.mem_map.1 he
    rw [List.length_map]; exact hall e' h1
  unfold elems at h
  split at h
  · rename_i els cl
    split at h
    · rename_i hz
      cases h
      have hall := szOk_of hc hz
      cases hc with
      | sl _ _ a cap sz0 b off vs hle hcl hsz hlen ha hv =>
        refine ⟨a, cap, vs, by simp, by simpa using hle, (mapdc els hall).1, ?_, fun hne => ⟨b, off, (ha hne).1, (ha hne).2.2⟩⟩
        rw [(mapdc els hall).2]
        exact dats_all2 (All2.of_get hlen.symm fun k a v h1 h2 => hv k a v h1 h2)
    · cases h
  · rename_i id ver off len cl
    obtain ⟨hb, a, cap, rfl, h1, h2, h3⟩ := hc
    split at h
    · rename_i t sz' ver' cs hg
      split at h
      · rename_i he
        rw [Bool.and_eq_true, beq_iff, beq_iff] at he
        obtain ⟨rfl, rfl⟩ := he
        obtain ⟨e1, e2, e3, e4⟩ := chunk_eq _ _ _ h
        obtain ⟨_, vs, g1, g2⟩ := row_lies hR hg
        have hvl := g2.length
        simp only [List.length_drop] at e4
        refine ⟨a, cap, (vs.drop (off * sz)).take (len * sz), by rw [e1], by omega, e2, by rw [e3]; exact (g2.drop _).take _, fun hne => ?_⟩
        have hpos : 0 < len := by
          cases Nat.eq_zero_or_pos len with
          | inl h => subst h; simp at hne
          | inr h => exact h
        obtain ⟨_, h4⟩ := h3 sz ver (.inl ⟨t, cs, hg⟩)
        obtain ⟨h5, _⟩ := h4 rfl (by omega)
        have hlp : 0 < len * sz := Nat.mul_pos hpos (by omega)
        exact ⟨_, _, h5, (g1.drop _ (by omega)).take _⟩
      · cases h
    · rename_i sz' ver' els hg
      split at h
      · rename_i he
        rw [Bool.and_eq_true, beq_iff, beq_iff] at he
        obtain ⟨rfl, rfl⟩ := he
        split at h
        · rename_i l' hl
          cases h
          obtain ⟨rfl, hle⟩ := takeN_eq _ _ _ hl
          simp only [List.length_drop] at hle
          obtain ⟨_, hall, hro, vs, g1, g2⟩ := (hR.ob _ _ hg).2
          have hvl := g2.length
          have hfl := flatten_len els hall
          have hall' : ∀ e ∈ List.take len (els.drop off), e.length = sz := fun e he => hall e (List.mem_of_mem_drop (List.mem_of_mem_take he))
          have hln : (List.take len (els.drop off)).length = len := by simp; omega
          refine ⟨a, cap, (vs.drop (off * sz)).take (len * sz), by simp only [List.length_map, hln], by simp only [List.length_map, hln]; exact h1, (mapdc _ hall').1, ?_, fun hne => ?_⟩
          · rw [(mapdc _ hall').2, flatten_take _ _ (fun e he => hall e (List.mem_of_mem_drop he)), flatten_drop _ _ hall]
            exact dats_all2 ((g2.drop _).take _)
          · have hpos : 0 < len := by
              cases Nat.eq_zero_or_pos len with
              | inl h => subst h; simp at hne
              | inr h => exact h
            obtain ⟨_, h4⟩ := h3 sz ver (.inr ⟨els, hg⟩)
            obtain ⟨h5, _⟩ := h4 rfl (by omega)
            have hm : off * sz ≤ els.length * sz := Nat.mul_le_mul_right _ (by omega)
            exact ⟨_, _, h5, (g1.drop _ (by omega)).take _⟩
        · cases h
      · cases h
    · cases h
  · cases h

/-! ## Conversions -/

theorem b2s_ok : ∀ (l : List (List Cell)) (s : List Nat), b2s l = some s → ∃ ns : List Int, l = ns.map (fun n => [dc (.int .u8 n)]) ∧ s = ns.map (fun n => n.toNat % 256)
  | [], s, h => by simp [b2s] at h; subst h; exact ⟨[], rfl, rfl⟩
  | e :: r, s, h => by
    unfold b2s at h
    split at h
    · rename_i heq; cases heq
    · rename_i n r' heq
      cases heq
      split at h
      · rename_i l hl
        cases h
        obtain ⟨ns, rfl, rfl⟩ := b2s_ok _ _ hl
        exact ⟨n :: ns, rfl, rfl⟩
      · cases h
    · cases h

theorem push_bytes (ns : List Int) : ∀ s : ByteArray, bytesOf (ns.foldl (fun r n => r.push (UInt8.ofNat n.toNat)) s) = bytesOf s ++ ns.map (fun n => n.toNat % 256) := by
  induction ns with
  | nil => intro s; simp
  | cons n ns ih =>
    intro s
    rw [List.foldl_cons, ih]
    have : bytesOf (s.push (UInt8.ofNat n.toNat)) = bytesOf s ++ [n.toNat % 256] := by
      unfold bytesOf
      show ((s.data.push (UInt8.ofNat n.toNat)).toList.map UInt8.toNat) = _
      rw [Array.toList_push, List.map_append]; simp
    rw [this, List.map_cons, List.append_assoc]; rfl

theorem flat_ints (ns : List Int) : (ns.map (fun n => [dc (.int .u8 n)])).flatten = ns.map (fun n => dc (.int .u8 n)) := by
  induction ns with
  | nil => rfl
  | cons n ns ih => simp only [List.map_cons, List.flatten_cons, ih]; rfl

theorem ints_inv : ∀ (ns : List Int) (vs : List Value), All2 (CR F ρ S w P) (ns.map (fun n => dc (.int .u8 n))) vs → vs = ns.map (Value.int .u8)
  | [], vs, h => by cases vs with
    | nil => rfl
    | cons v vs => exact h.elim
  | n :: ns, vs, h => by
    cases vs with
    | nil => exact h.elim
    | cons v vs =>
      obtain ⟨h1, h2⟩ := h
      rw [ints_inv ns vs h2, VD.int_inv h1]; rfl

theorem evConv_ok (hR : R F ρ S w P) {t u : TypeId} {k : ConvK} {x y : AVal} {v : Value} (hk : convK P t u = some k) (h : evConv S k x = some y) (hx : AR F ρ S w P x v) :
    ∃ z, (convert t u v).run P w = .ok z w ∧ AR F ρ S w P y z := by
  unfold convK at hk
  split at hk
  · rename_i q k' h1 h2
    cases hk
    simp only [evConv] at h
    split at h
    · rename_i q n hd
      cases h
      rw [(hx.dat hd).int_inv]
      exact ⟨_, by simp [convert, run_und h1, run_und h2, Conv.intToInt]; rfl, by rw [iWrap_eq]; exact VD.int _ _⟩
    · cases h
  · rename_i h1 h2
    cases hk
    simp only [evConv] at h
    split at h
    · rename_i s hd
      cases h
      obtain ⟨b, rfl, rfl⟩ := (hx.dat hd).str_inv
      exact ⟨_, by simp [convert, run_und h1, run_und h2], VD.str _⟩
    · cases h
  · rename_i e h1 h2
    split at hk
    · rename_i h3
      cases hk
      simp only [evConv] at h
      split at h
      · rename_i c hc
        split at h
        · rename_i l hl
          split at h
          · rename_i s hs
            cases h
            obtain ⟨a, cap, vs, rfl, _, _, g2, g3⟩ := elems_ok hR (by omega) hl (hx.cell0 hc)
            obtain ⟨ns, rfl, rfl⟩ := b2s_ok _ _ hs
            rw [run_convert_bytes_string w t u e a _ cap h1 h3 h2]
            rw [flat_ints] at g2
            have hvs := ints_inv ns vs g2
            subst hvs
            cases ns with
            | nil =>
              cases a with
              | none => exact ⟨.string .empty, rfl, VD.str ByteArray.empty⟩
              | some a => exact ⟨.string .empty, by simp [Conv.bytesToString, loadCells, loadCellsFrom], VD.str ByteArray.empty⟩
            | cons n ns =>
              obtain ⟨b, off, rfl, g4⟩ := g3 (by simp)
              refine ⟨_, run_bytesToString w _ _ cap (n :: ns) (g4.loadCells _ (by simp)), ?_⟩
              have := push_bytes (n :: ns) ByteArray.empty
              rw [show bytesOf ByteArray.empty = [] from rfl, List.nil_append] at this
              rw [← this]
              exact VD.str _
          · cases h
        · cases h
      · cases h
    · cases hk
  · split at hk
    · cases hk; simp [evConv] at h
    · cases hk
  · cases hk

/-! ## Aggregates -/

theorem setCells (v : Array Value) (off : Nat) : ∀ (cells : Array Value), off + v.size ≤ cells.size →
    (v.zipIdx.foldl (fun cs (c, j) => cs.setIfInBounds (off + j) c) cells).toList = cells.toList.take off ++ v.toList ++ cells.toList.drop (off + v.size) := by
  have gen : ∀ (l : List Value) (k : Nat) (cells : Array Value), off + k + l.length ≤ cells.size →
      ((l.zipIdx k).foldl (fun cs (c, j) => cs.setIfInBounds (off + j) c) cells).toList = cells.toList.take (off + k) ++ l ++ cells.toList.drop (off + k + l.length) := by
    intro l
    induction l with
    | nil => intro k cells _; simp
    | cons a l ih =>
      intro k cells h
      simp only [List.length_cons] at h
      rw [List.zipIdx_cons, List.foldl_cons, ih (k + 1) _ (by simp; omega)]
      simp only [Array.toList_setIfInBounds, List.length_cons]
      have hlt : off + k < cells.toList.length := by rw [Array.length_toList]; omega
      have hT : (cells.toList.take (off + k)).length = off + k := by rw [List.length_take]; omega
      rw [List.set_eq_take_append_cons_drop, if_pos hlt]
      generalize hA : cells.toList.take (off + k) = A at hT
      have e1 : List.take (off + (k + 1)) (A ++ a :: List.drop (off + k + 1) cells.toList) = A ++ [a] := by
        rw [show off + (k + 1) = A.length + 1 from by omega, List.take_length_add_append]; rfl
      have e2 : List.drop (off + (k + 1) + l.length) (A ++ a :: List.drop (off + k + 1) cells.toList) = List.drop (off + k + (l.length + 1)) cells.toList := by
        rw [show off + (k + 1) + l.length = A.length + (l.length + 1) from by omega, List.drop_length_add_append, List.drop_succ_cons, List.drop_drop]
        congr 1; omega
      rw [e1, e2]; simp
  intro cells h
  have := gen v.toList 0 cells (by simpa using h)
  simp only [Nat.add_zero, Array.length_toList] at this
  rw [← this, ← Array.foldl_toList, Array.toList_zipIdx]

theorem fill_ok {a : Act} {slots : PM AVal} (hs : SlR F ρ S w P slots a.tmps) {place : Nat → Option (Nat × Nat)} : ∀ (ps : List (Nat × Operand)) (qs : List (Nat × Nat × AOpd)) (cs cs' : List Cell) (cells : Array Value),
    partsOf place ps = some qs → fillAll (rdS slots) qs cs = some cs' → All2 (CR F ρ S w P) cs cells.toList →
    ∃ cells', Instr.fill place cells (ps.map fun (i, x) => (i, a.eval x)) = some cells' ∧ All2 (CR F ρ S w P) cs' cells'.toList
  | [], qs, cs, cs', cells, hp, hf, hc => by
    simp only [partsOf, mapO, Option.some.injEq] at hp; subst hp
    simp only [fillAll, Option.some.injEq] at hf; subst hf
    exact ⟨cells, rfl, hc⟩
  | (i, x) :: ps, qs, cs, cs', cells, hp, hf, hc => by
    unfold partsOf at hp
    simp only [mapO] at hp
    split at hp
    · rename_i y hy
      split at hp
      · rename_i l hl
        cases hp
        split at hy
        · rename_i off sz z hpl hz
          cases hy
          simp only [fillAll] at hf
          have hx := opd_ok hs hz
          split at hf
          · rename_i vy hvy
            rw [hvy] at hx
            split at hf
            · rename_i hb
              rw [Bool.and_eq_true, beq_iff, ble_iff] at hb
              obtain ⟨h1, h2⟩ := hb
              have hcl := hc.length
              have hvc : All2 (CR F ρ S w P) vy.cells (a.eval x).cells.toList := by
                cases vy with
                | one c =>
                  have hx : CR F ρ S w P c (a.eval x) := hx
                  generalize a.eval x = ev at hx
                  have : ev.cells = #[ev] := by
                    cases c with
                    | s c =>
                      cases c with
                      | d d => cases (show VD _ _ _ _ from hx) <;> rfl
                      | ptr id ver off => obtain ⟨_, q, e, _⟩ := hx; rw [e]; rfl
                      | ro l => obtain ⟨b, o, vs, e, _⟩ := hx; rw [e]; rfl
                      | sl id ver off len cl => obtain ⟨_, q, r, e, _⟩ := hx; rw [e]; rfl
                      | mp id => obtain ⟨_, q, e, _⟩ := hx; rw [e]; rfl
                      | it id => obtain ⟨_, q, e, _⟩ := hx; rw [e]; rfl
                    | fn f g l1 l2 => obtain ⟨q, r, e, _⟩ := hx; rw [e]; rfl
                    | yld id => obtain ⟨_, q, e, _⟩ := hx; rw [e]; rfl
                    | ifc t g l => obtain ⟨q, e, _⟩ := hx; rw [e]; rfl
                  rw [this]; exact ⟨hx, trivial⟩
                | agg l => obtain ⟨q, e, hq⟩ := hx; rw [e]; exact hq
              have hsz : (a.eval x).cells.size = sz := by rw [← Array.length_toList, ← hvc.length, h1]
              have hcs : cs.length = cells.size := by rw [hcl, Array.length_toList]
              have hset := setCells (a.eval x).cells off cells (by omega)
              have hnew : All2 (CR F ρ S w P) (fill off vy.cells cs) ((a.eval x).cells.zipIdx.foldl (fun cs (c, j) => cs.setIfInBounds (off + j) c) cells).toList := by
                rw [hset]
                have e : vy.cells.length = (a.eval x).cells.size := by rw [hvc.length, Array.length_toList]
                unfold fill
                rw [e]
                exact ((hc.take off).append hvc).append (hc.drop _)
              obtain ⟨cells', g1, g2⟩ := fill_ok hs ps l _ cs' _ hl hf hnew
              refine ⟨cells', ?_, g2⟩
              simp only [List.map_cons, Instr.fill, hpl]
              rw [if_neg (by simp; omega)]
              exact g1
            · cases hf
          · cases hf
        · cases hy
      · cases hp
    · cases hp

end
end Go.Rf
