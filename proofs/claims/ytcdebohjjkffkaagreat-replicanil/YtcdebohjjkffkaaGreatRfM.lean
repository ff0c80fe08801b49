/- Operations that make one new object. -/
import Derived.Test.YtcdebohjjkffkaaGreatRfZ
import Derived.Laws.IdiomStrings
import Derived.Laws.IdiomRangeMap
import Derived.Laws.RangeString
namespace Go.Rf
set_option linter.unusedVariables false
set_option linter.unusedSimpArgs false
open Go

def St.made (S : St) (n nx : Nat) (ob : AObj) : St := { S with objs := S.objs.set n ob, next := nx }

theorem St.get_made (S : St) (n nx : Nat) (ob : AObj) (j : Nat) : (S.made n nx ob).get j = if j = n then some ob else S.get j := PM.get_set _ _ _ _
theorem St.get_made_self (S : St) (n nx : Nat) (ob : AObj) : (S.made n nx ob).get n = some ob := by rw [St.get_made, if_pos rfl]

section
variable {F : Fo} {ρ : Pl} {S : St} {w w1 : World} {P : Program}

/-- The new object is there, and so is its value. -/
structure MadeOk (F : Fo) (ρ : Pl) (S : St) (w : World) (P : Program) (n nx : Nat) (ob : AObj) (f : MV) (u : Value) (w' : World) : Prop where
  r : R F (ρ.new n (w.heap.size, 0)) (S.made n nx ob) w' P
  ext : Ext ρ S w (ρ.new n (w.heap.size, 0)) (S.made n nx ob) w'
  grow : ∃ o, w'.heap = w.heap.push o ∧ Calm w w'
  val : AR F (ρ.new n (w.heap.size, 0)) (S.made n nx ob) w' P (f.val n) u

theorem push_grow {o : Obj} (hw : Alike w w1) : ∃ o', (w1.alloc o).heap = w.heap.push o' ∧ Calm w (w1.alloc o) := ⟨o, by show w1.heap.push o = _; rw [hw.heap], hw.calm⟩

theorem made_step (hR : R F ρ S w P) (hw : Alike w w1) {n nx : Nat} (hn : Free F ρ n) (hx : S.next ≤ nx) (hlt : n < nx) (hfl : S.floor ≤ n) {ob : AObj} {o : Obj}
    (hob : Ext ρ S w (ρ.new n (w.heap.size, 0)) (S.made n nx ob) (w1.alloc o) → ObR F (ρ.new n (w.heap.size, 0)) (S.made n nx ob) (w1.alloc o) P n ob) :
    R F (ρ.new n (w.heap.size, 0)) (S.made n nx ob) (w1.alloc o) P ∧ Ext ρ S w (ρ.new n (w.heap.size, 0)) (S.made n nx ob) (w1.alloc o) := by
  have hR1 := hR.same hw
  have hE := Ext.alloc hR1 ob o 0 hn.1 hx hfl
  rw [hw.heap] at hE
  have hE' : Ext ρ S w (ρ.new n (w.heap.size, 0)) (S.made n nx ob) (w1.alloc o) := (Ext.same hw).trans hE
  refine ⟨?_, hE'⟩
  have := R.alloc (o := o) (off := 0) hR1 hn hx hlt hfl (ob := ob) (by rw [hw.heap]; exact hob hE')
  rw [hw.heap] at this
  exact this

/-- A new row of cells. -/
theorem made_row (hR : R F ρ S w P) (hw : Alike w w1) {n nx : Nat} (hn : Free F ρ n) (hx : S.next ≤ nx) (hlt : n < nx) (hfl : S.floor ≤ n) {t : TypeId} {sz : Nat} (h0 : 0 < sz)
    {cs : List Cell} {vs post : List Value} {c : Array Value} {e : TypeId} {lo hi : Nat} (hfz : hi ≤ lo ∨ c.size ≤ lo) (hc : c.toList = vs ++ post) (hv : All2 (CR F ρ S w P) cs vs) :
    R F (ρ.new n (w.heap.size, 0)) (S.made n nx (.row t sz 0 cs)) (w1.alloc (.cells c e (lo, hi))) P ∧
    Ext ρ S w (ρ.new n (w.heap.size, 0)) (S.made n nx (.row t sz 0 cs)) (w1.alloc (.cells c e (lo, hi))) :=
  made_step hR hw hn hx hlt hfl fun hE => by
    refine ⟨h0, c, e, lo, hi, [], vs, post, ?_, hfz, hc, ?_, hv.mono fun _ _ h => h.ext hE⟩
    · rw [Pl.at_new_self, ← hw.heap]; exact alloc_get_new w1 _
    · rw [Pl.at_new_self]; rfl

theorem made_rowOf {n nx sz sz' ver' : Nat} {t : TypeId} {cs : List Cell} (h : rowOf (S.made n nx (.row t sz 0 cs)) n sz' ver') : sz' = sz ∧ ver' = 0 := by
  rcases h with ⟨t', cs', h⟩ | ⟨els, h⟩
  · rw [St.get_made_self] at h; cases h; exact ⟨rfl, rfl⟩
  · rw [St.get_made_self] at h; cases h

theorem made_ptr (hR : R F ρ S w P) (hw : Alike w w1) {n nx : Nat} (hn : Free F ρ n) (hx : S.next ≤ nx) (hlt : n < nx) (hfl : S.floor ≤ n) {t : TypeId} {sz : Nat} (h0 : 0 < sz)
    {cs : List Cell} {c : Array Value} {e : TypeId} (hv : All2 (CR F ρ S w P) cs c.toList) :
    MadeOk F ρ S w P n nx (.row t sz 0 cs) .ptr (.pointer (some ⟨w.heap.size, 0, none⟩)) (w1.alloc (.cells c e)) := by
  obtain ⟨h1, h2⟩ := made_row (t := t) (e := e) (lo := 0) (hi := 0) hR hw hn hx hlt hfl h0 (.inl (Nat.le_refl _)) (c := c) (post := []) (by simp) hv
  refine ⟨h1, h2, push_grow hw, by simp [Pl.new_self], _, rfl, fun sz' ver' hr => ?_⟩
  obtain ⟨rfl, rfl⟩ := made_rowOf hr
  refine ⟨Nat.le_refl _, fun _ => ?_⟩
  rw [Pl.at_new_self]

theorem made_sl (hR : R F ρ S w P) (hw : Alike w w1) {n nx : Nat} (hn : Free F ρ n) (hx : S.next ≤ nx) (hlt : n < nx) (hfl : S.floor ≤ n) {t : TypeId} {sz : Nat} (h0 : 0 < sz)
    {cs : List Cell} {vs post : List Value} {c : Array Value} {e : TypeId} {lo hi len cap : Nat} {cl : Bool} (hfz : hi ≤ lo ∨ c.size ≤ lo) (hc : c.toList = vs ++ post)
    (hv : All2 (CR F ρ S w P) cs vs) (hcap : len ≤ cap) (hcl : cl = true → cap = len) (hroom : cap * sz ≤ c.size) :
    MadeOk F ρ S w P n nx (.row t sz 0 cs) (.sl len cl) (.slice (some ⟨w.heap.size, 0, none⟩) len cap) (w1.alloc (.cells c e (lo, hi))) := by
  obtain ⟨h1, h2⟩ := made_row (t := t) (e := e) hR hw hn hx hlt hfl h0 hfz hc hv
  refine ⟨h1, h2, push_grow hw, by simp [Pl.new_self], _, _, rfl, hcap, hcl, fun sz' ver' hr => ?_⟩
  obtain ⟨rfl, rfl⟩ := made_rowOf hr
  refine ⟨Nat.le_refl _, fun _ _ => ?_⟩
  rw [Pl.at_new_self]
  refine ⟨by simp, c, e, (lo, hi), ?_, by simpa using hroom⟩
  rw [← hw.heap]; exact alloc_get_new w1 _

/-! ## Rows of zeros -/

theorem map_range_self (z : Array Value) : (List.range z.size).map (fun i => z[i % z.size]!) = z.toList := by
  apply List.ext_getElem
  · simp
  · intro i h1 h2
    simp only [List.length_map, List.length_range] at h1
    simp [Nat.mod_eq_of_lt h1, h1]

theorem made_list (z : Array Value) : ∀ k, (madeCells z (k * z.size)).toList = (List.replicate k z.toList).flatten := by
  intro k
  have e : ∀ n, (madeCells z n).toList = (List.range n).map (fun i => z[i % z.size]!) := by intro n; simp [madeCells, Array.toList_range]
  rw [e]
  induction k with
  | zero => simp
  | succ k ih =>
    rw [show (k + 1) * z.size = z.size + k * z.size from by rw [Nat.succ_mul]; omega, List.range_add, List.map_append, map_range_self, List.map_map]
    rw [List.replicate_succ, List.flatten_cons, ← ih]
    congr 1
    apply List.map_congr_left
    intro i _
    simp

theorem zero_rows {z : List Cell} {v : List Value} (h : All2 (CR F ρ S w P) z v) : ∀ k, All2 (CR F ρ S w P) (List.replicate k z).flatten (List.replicate k v).flatten
  | 0 => trivial
  | k + 1 => by rw [List.replicate_succ, List.replicate_succ, List.flatten_cons, List.flatten_cons]; exact h.append (zero_rows h k)

theorem replicate_split {α : Type} (v : List α) {a b : Nat} (h : a ≤ b) : (List.replicate b v).flatten = (List.replicate a v).flatten ++ (List.replicate (b - a) v).flatten := by
  rw [← List.flatten_append, List.replicate_append_replicate]
  congr 2; omega

theorem evMkslice_ok (hR : R F ρ S w P) {n nx : Nat} (hn : Free F ρ n) (hx : S.next ≤ nx) (hlt : n < nx) (hfl : S.floor ≤ n) {t e : TypeId} {i : TypeInfo} {z : Vl} {l c : AVal} {vl vc : Value} {ob : AObj} {f : MV}
    (ht : P.underlying t = some (.slice e)) (hi : P.info? e = some i) (hz : zeroOf P e = some z) (h0 : i.size ≠ 0) (hzs : z.cells.length = i.size)
    (h : evMkslice e i.size i.bytes z.cells l c = some (ob, f)) (hl : AR F ρ S w P l vl) (hc : AR F ρ S w P c vc) :
    ∃ u w', (Instr.makeSlice t vl vc).run P w = .ok u w' ∧ MadeOk F ρ S w P n nx ob f u w' := by
  unfold evMkslice at h
  split at h
  · rename_i a b ha hb
    split at h
    · rename_i hcond
      cases h
      obtain ⟨kl, rfl⟩ := hl.int ha
      obtain ⟨kc, rfl⟩ := hc.int hb
      simp only [Bool.and_eq_true, decide_eq_true_eq] at hcond
      obtain ⟨⟨⟨h1, h2⟩, h3⟩, h4⟩ := hcond
      obtain ⟨i', v, g1, g2, g3⟩ := zeroOf_ok hz
      rw [hi] at g1; cases g1
      have hcells := VlR.cells (vlOf_ok (F := F) (ρ := ρ) (S := S) (w := w) (P := P) g3)
      have hsz : v.cells.size = i.size := by rw [← Array.length_toList, ← hcells.length, hzs]
      have hb0 : (0 : Int) ≤ b := by omega
      have hrun := run_make (P := P) w t e i v ht hi g2 kl kc a b h1 h2 (by rw [Int.mul_comm]; omega) (by omega)
      refine ⟨_, _, hrun, ?_⟩
      have hab : a.toNat ≤ b.toNat := by omega
      refine made_sl hR .rfl' hn hx hlt hfl (by omega) (lo := 0) (hi := 0) (.inl (Nat.le_refl _)) (vs := (List.replicate a.toNat v.cells.toList).flatten) (post := (List.replicate (b.toNat - a.toNat) v.cells.toList).flatten) ?_ (zero_rows hcells _) hab ?_ ?_
      · rw [← hsz, made_list, replicate_split _ hab]
      · intro e; simp only [decide_eq_true_eq] at e; rw [e]
      · rw [size_madeCells]; exact Nat.le_refl _
    · cases h
  · cases h

theorem evBox_ok (hR : R F ρ S w P) {n nx : Nat} (hn : Free F ρ n) (hx : S.next ≤ nx) (hlt : n < nx) (hfl : S.floor ≤ n) {t : TypeId} {sz : Nat} {x : AVal} {v : Value} {ob : AObj} {f : MV} (h0 : sz ≠ 0)
    (h : evBox t sz x = some (ob, f)) (hv : AR F ρ S w P x v) : ∃ u w', (Instr.box t v).run P w = .ok u w' ∧ MadeOk F ρ S w P n nx ob f u w' := by
  unfold evBox at h
  split at h
  · rename_i y
    split at h
    · cases h
      exact ⟨_, w.alloc (.cells v.cells t), by simp [Instr.box, newVar, newRow], made_ptr hR .rfl' hn hx hlt hfl (by omega) (VlR.cells hv)⟩
    · cases h
  · cases h

theorem alloc_ok (hR : R F ρ S w P) {n nx : Nat} (hn : Free F ρ n) (hx : S.next ≤ nx) (hlt : n < nx) (hfl : S.floor ≤ n) {t : TypeId} {z : Vl} (hz : zeroOf P t = some z) (h0 : z.cells.length ≠ 0) :
    ∃ u w', (Instr.alloc t true (.tuple #[])).run P w = .ok u w' ∧ MadeOk F ρ S w P n nx (.row t z.cells.length 0 z.cells) .ptr u w' := by
  obtain ⟨v, h1, h2⟩ := run_zero hz w
  exact ⟨_, w.alloc (.cells v.cells t), by simp [Instr.alloc, h1, newVar, newRow], made_ptr hR .rfl' hn hx hlt hfl (by omega) (VlR.cells (vlOf_ok h2))⟩

theorem bslice_ok (hR : R F ρ S w P) {n nx : Nat} (hn : Free F ρ n) (hx : S.next ≤ nx) (hlt : n < nx) (hfl : S.floor ≤ n) {slots : PM AVal} {a : Act} (hs : SlR F ρ S w P slots a.tmps) {t e : TypeId} {z : Vl} {s len : Nat} {ps : Array (Nat × Operand)}
    {qs : List (Nat × Nat × AOpd)} (ht : P.underlying t = some (.slice e)) (hsz : szOf P e = some s) (hz : zeroOf P e = some z) (h0 : s ≠ 0) (hzs : z.cells.length = s) (hmx : ¬ len * s > 16777216)
    (hq : partsOf (fun i => some (i * s, s)) ps.toList = some qs) {l : List Cell} (h : fillAll (rdS slots) qs (rows len z.cells) = some l) :
    ∃ u w', (Instr.buildSlice t len (ps.map fun (i, x) => (i, a.eval x))).run P w = .ok u w' ∧ MadeOk F ρ S w P n nx (.row e s 0 l) (.sl len true) u w' := by
  obtain ⟨v, h1, h2⟩ := run_zero hz w
  have hcells := VlR.cells (vlOf_ok (F := F) (ρ := ρ) (S := S) (w := w) (P := P) h2)
  have hv : v.cells.size = s := by rw [← Array.length_toList, ← hcells.length, hzs]
  have hrows : All2 (CR F ρ S w P) (rows len z.cells) (madeCells v.cells (len * s)).toList := by
    rw [← hv, made_list]; exact zero_rows hcells len
  obtain ⟨cells', g1, g2⟩ := fill_ok hs ps.toList qs _ l (madeCells v.cells (len * s)) hq h hrows
  have hlen : cells'.size = len * s := by
    have e1 : ∀ (xs : List (Nat × Value)) (c c' : Array Value), Instr.fill (fun i => some (i * s, s)) c xs = some c' → c'.size = c.size := by
      intro xs
      induction xs with
      | nil => intro c c' h; cases h; rfl
      | cons x xs ih =>
        obtain ⟨i, y⟩ := x
        intro c c' h
        simp only [Instr.fill] at h
        split at h
        · cases h
        · rename_i hb
          have := ih _ _ h
          rw [this]
          simp only [Bool.or_eq_true, decide_eq_true_eq, not_or] at hb
          have hc := setCells y.cells (i * s) c (by omega)
          have := congrArg List.length hc
          rw [Array.length_toList] at this
          rw [this]
          simp
          omega
    rw [e1 _ _ _ g1, size_madeCells]
  refine ⟨_, _, ?_, made_sl (e := e) (c := cells') (lo := 0) (hi := 0) hR .rfl' hn hx hlt hfl (by omega) (.inl (Nat.le_refl _)) (vs := cells'.toList) (post := []) (by simp) g2 (Nat.le_refl _) (fun _ => rfl) (by rw [hlen]; exact Nat.le_refl _)⟩
  have hg : Instr.fill (fun i => some (i * s, s)) (madeCells v.cells (len * s)) (ps.map fun (i, x) => (i, a.eval x)).toList = some cells' := by rw [Array.toList_map]; exact g1
  unfold Instr.buildSlice
  by_cases hl : len * s = 0
  · have hm : madeCells v.cells (len * s) = #[] := by simp [hl, madeCells]
    rw [hm] at hg
    have hm' : (Array.range (len * s)).map ((#[] : Array Value)[· % (#[] : Array Value).size]!) = #[] := by simp [hl]
    simp only [Sem.run_bind, run_und ht, Result.andThen, run_size hsz, if_neg hmx, if_pos hl, Sem.run_pure, hm', hg, newRow]
    rfl
  · have hm : (Array.range (len * s)).map (v.cells[· % v.cells.size]!) = madeCells v.cells (len * s) := rfl
    simp only [Sem.run_bind, run_und ht, Result.andThen, run_size hsz, if_neg hmx, if_neg hl, h1, Sem.run_pure, hm, hg, newRow]
    rfl

/-! ## Maps, strings, walks -/

theorem mkmap_ok (hR : R F ρ S w P) {n nx : Nat} (hn : Free F ρ n) (hx : S.next ≤ nx) (hlt : n < nx) (hfl : S.floor ≤ n) (k : KeyK) (t : TypeId) :
    ∃ u w', (Instr.makeMap t none).run P w = .ok u w' ∧ MadeOk F ρ S w P n nx (.map k [] 0) .mp u w' := by
  obtain ⟨h1, h2⟩ := made_step (w1 := w) (ob := .map k [] 0) (o := .map #[] 0) hR .rfl' hn hx hlt hfl (fun _ => ⟨#[], by rw [Pl.at_new_self]; exact alloc_get_new w _, trivial⟩)
  refine ⟨_, _, (rfl : (Instr.makeMap t none).run P w = .ok (.map (some w.heap.size)) (w.alloc (.map #[] 0))), h1, h2, push_grow .rfl', by simp [Pl.new_self], _, rfl, fun o _ _ => by rw [Pl.at_new_self]⟩

theorem bytes_cells (s : ByteArray) : All2 (CR F ρ S w P) ((bytesOf s).map fun (n : Nat) => dc (.int .u8 (n : Int))) (s.data.map (fun b => Value.int .u8 b.toNat)).toList := by
  rw [Array.toList_map]
  unfold bytesOf
  rw [List.map_map]
  generalize s.data.toList = l
  induction l with
  | nil => trivial
  | cons b l ih => exact ⟨VD.int _ _, ih⟩

theorem evS2b_ok (hR : R F ρ S w P) {n nx : Nat} (hn : Free F ρ n) (hx : S.next ≤ nx) (hlt : n < nx) (hfl : S.floor ≤ n) {src dst e : TypeId} {x : AVal} {v : Value} {ob : AObj} {f : MV}
    (hs : P.underlying src = some .string) (hd : P.underlying dst = some (.slice e)) (he : P.underlying e = some (.int .u8))
    (h : evS2b e x = some (ob, f)) (hv : AR F ρ S w P x v) : ∃ u w', (convert src dst v).run P w = .ok u w' ∧ MadeOk F ρ S w P n nx ob f u w' := by
  unfold evS2b at h
  split at h
  · rename_i s hx'
    cases h
    obtain ⟨b, rfl, rfl⟩ := (hv.dat hx').str_inv
    have hge := grownCap_ge w b.size 0 e
    refine ⟨_, _, run_bytes_of_string w src dst e b hs hd he, ?_⟩
    rw [bytesOf_length]
    refine made_sl (w1 := w.drew) hR .rfl' hn hx hlt hfl (by omega) (.inr (Nat.le_refl _)) (vs := (b.data.map (fun b => Value.int .u8 b.toNat)).toList) (post := List.replicate (grownCap w b.size 0 e - b.size) (.int .u8 0)) ?_ (bytes_cells b) hge (fun e => by cases e) ?_
    · simp [bytesRow]
    · have : b.data.size = b.size := rfl
      simp [bytesRow]; omega
  · cases h

theorem evRange_ok (hR : R F ρ S w P) {n nx : Nat} (hn : Free F ρ n) (hx : S.next ≤ nx) (hlt : n < nx) (hfl : S.floor ≤ n) {t : TypeId} {str : Bool} {x : AVal} {v : Value} {ob : AObj} {f : MV}
    (ht : match str with
      | true => P.underlying t = some .string
      | false => ∃ k e, P.underlying t = some (.map k e))
    (h : evRange S str x = some (ob, f)) (hv : AR F ρ S w P x v) : ∃ u w', (Instr.range t v).run P w = .ok u w' ∧ MadeOk F ρ S w P n nx ob f u w' := by
  unfold evRange at h
  split at h
  · rename_i s hc
    cases h
    obtain ⟨b, rfl, rfl⟩ := VD.str_inv (hv.cell0 hc)
    obtain ⟨h1, h2⟩ := made_step (w1 := w) (ob := .sit (bytesOf b) 0) (o := .stringIter b 0) hR .rfl' hn hx hlt hfl (fun _ => ⟨b, rfl, by rw [Pl.at_new_self]; exact alloc_get_new w _⟩)
    exact ⟨_, _, run_range_string w t b ht, h1, h2, push_grow .rfl', by simp [Pl.new_self], _, rfl, fun o _ _ => by rw [Pl.at_new_self]⟩
  · rename_i hc
    cases h
    obtain ⟨k, e, ht⟩ := ht
    have hvn : v = .map none := by
      have := hv.cell0 hc
      cases (show VD _ _ _ _ from this); rfl
    subst hvn
    obtain ⟨h1, h2⟩ := made_step (w1 := w) (ob := .mit none 0 [] 0) (o := .mapIter none 0 #[] 0) hR .rfl' hn hx hlt hfl
      (fun _ => ⟨#[], none, rfl, by rw [Pl.at_new_self]; exact alloc_get_new w _, fun _ => rfl, fun i hi => by cases hi⟩)
    exact ⟨_, _, run_range_nilMap w t k e ht, h1, h2, push_grow .rfl', by simp [Pl.new_self], _, rfl, fun o _ _ => by rw [Pl.at_new_self]⟩
  · rename_i m hc
    split at h
    · rename_i k' es clock hm
      cases h
      obtain ⟨k, e, ht⟩ := ht
      obtain ⟨hb, r, rfl, hr⟩ := hv.cell0 hc
      have hr := hr _ hm rfl
      obtain ⟨ms, g1, g2⟩ := (hR.ob m _ hm).2
      rw [← hr] at g1
      have hne : m ≠ n := by rintro rfl; rw [hn.1] at hb; cases hb
      obtain ⟨h1, h2⟩ := made_step (w1 := w) (ob := .mit (some m) clock [] clock) (o := .mapIter (some r) clock #[] clock) hR .rfl' hn hx hlt hfl
        (fun hE => ⟨#[], some r, rfl, by rw [Pl.at_new_self]; exact alloc_get_new w _, (fun h => nomatch h), fun i hi => by
          cases hi
          refine ⟨hE.born _ hb, fun o ho hto => ?_⟩
          rw [Pl.at_new_ne _ _ hne, hr]⟩)
      exact ⟨_, _, run_range_map w t k e r ms clock ht g1, h1, h2, push_grow .rfl', by simp [Pl.new_self], _, rfl, fun o _ _ => by rw [Pl.at_new_self]⟩
    · cases h
  · cases h

set_option maxHeartbeats 1000000 in
theorem evM_ok (hR : R F ρ S w P) {slots : PM AVal} {a : Act} (hs : SlR F ρ S w P slots a.tmps) {o : Oper} {m : MOp} (hm : compM P o.op = some m) {ob : AObj} {f : MV} (h : evM S (rdS slots) m = some (ob, f))
    {n nx : Nat} (hn : Free F ρ n) (hx : S.next ≤ nx) (hlt : n < nx) (hfl : S.floor ≤ n) :
    ∃ u w', (execOp a.eval o).run P w = .ok (.value u) w' ∧ MadeOk F ρ S w P n nx ob f u w' := by
  have fin : ∀ {s : Sem Value} {ob f}, (∃ u w', s.run P w = .ok u w' ∧ MadeOk F ρ S w P n nx ob f u w') → ∃ u w', (do pure (Next.value (← s)) : Sem Next).run P w = .ok (.value u) w' ∧ MadeOk F ρ S w P n nx ob f u w' := by
    rintro s ob f ⟨u, w', h1, h2⟩
    exact ⟨u, w', by simp [h1], h2⟩
  unfold execOp
  cases ho : o.op with
  | alloc t =>
    rw [ho] at hm
    simp only [compM, Option.bind_eq_bind, Option.bind_eq_some_iff] at hm
    obtain ⟨z, hz, hm⟩ := hm
    split at hm
    · cases hm
    · rename_i h0
      cases hm
      cases h
      exact fin (alloc_ok hR hn hx hlt hfl hz h0)
  | box t x =>
    rw [ho] at hm
    simp only [compM, Option.bind_eq_bind, Option.bind_eq_some_iff] at hm
    obtain ⟨s, hsz, hm⟩ := hm
    split at hm
    · cases hm
    · rename_i h0
      simp only [Option.bind_eq_some_iff, Option.some.injEq] at hm
      obtain ⟨x', hx', rfl⟩ := hm
      exact fin (evBox_ok hR hn hx hlt hfl h0 h (opd_ok hs hx'))
  | buildSlice t len ps =>
    rw [ho] at hm
    simp only [compM] at hm
    split at hm
    · rename_i e ht
      simp only [Option.bind_eq_bind, Option.bind_eq_some_iff] at hm
      obtain ⟨s, hsz, z, hz, hm⟩ := hm
      split at hm
      · cases hm
      · rename_i hc
        simp only [Option.bind_eq_some_iff, Option.some.injEq] at hm
        obtain ⟨qs, hqs, rfl⟩ := hm
        simp only [Bool.or_eq_true, decide_eq_true_eq, not_or, ne_eq, Decidable.not_not] at hc
        simp only [evM, Option.map_eq_some_iff] at h
        obtain ⟨l, hl, e⟩ := h
        cases e
        exact fin (bslice_ok hR hn hx hlt hfl hs ht hsz hz hc.1.1 hc.1.2 hc.2 hqs hl)
    · cases hm
  | convert s t x =>
    rw [ho] at hm
    simp only [compM] at hm
    split at hm
    · rename_i e hk
      rw [Option.map_eq_some_iff] at hm
      obtain ⟨x', hx', rfl⟩ := hm
      unfold convK at hk
      split at hk
      · cases hk
      · cases hk
      · split at hk <;> cases hk
      · rename_i h1 h2
        split at hk
        · rename_i h3
          cases hk
          exact fin (evS2b_ok hR hn hx hlt hfl h1 h2 h3 h (opd_ok hs hx'))
        · cases hk
      · cases hk
    · cases hm
  | makeMap t r =>
    rw [ho] at hm
    cases r with
    | some r => simp [compM] at hm
    | none =>
      simp only [compM] at hm
      split at hm
      · rw [Option.map_eq_some_iff] at hm
        obtain ⟨k, hk, rfl⟩ := hm
        cases h
        exact fin (mkmap_ok hR hn hx hlt hfl k t)
      · cases hm
  | makeSlice t l c =>
    rw [ho] at hm
    simp only [compM] at hm
    split at hm
    · rename_i e ht
      simp only [Option.bind_eq_bind, Option.bind_eq_some_iff] at hm
      obtain ⟨i, hi, z, hz, hm⟩ := hm
      split at hm
      · cases hm
      · rename_i hc
        simp only [Option.bind_eq_some_iff, Option.some.injEq] at hm
        obtain ⟨l', hl, c', hc', rfl⟩ := hm
        simp only [Bool.or_eq_true, decide_eq_true_eq, not_or, ne_eq, Decidable.not_not] at hc
        exact fin (evMkslice_ok hR hn hx hlt hfl ht hi hz hc.1 hc.2 h (opd_ok hs hl) (opd_ok hs hc'))
    · cases hm
  | range t x =>
    rw [ho] at hm
    simp only [compM] at hm
    split at hm
    · rename_i ht
      rw [Option.map_eq_some_iff] at hm
      obtain ⟨x', hx', rfl⟩ := hm
      exact fin (evRange_ok hR hn hx hlt hfl (str := true) ht h (opd_ok hs hx'))
    · rename_i k e ht
      rw [Option.map_eq_some_iff] at hm
      obtain ⟨x', hx', rfl⟩ := hm
      exact fin (evRange_ok hR hn hx hlt hfl (str := false) ⟨k, e, ht⟩ h (opd_ok hs hx'))
    · cases hm
  | _ => rw [ho] at hm; simp [compM] at hm

end
end Go.Rf
