/- Append: in place or in a new block. -/
import Derived.Test.YtcdebohjjkffkaaGreatRfG
namespace Go.Rf
set_option linter.unusedVariables false
set_option linter.unusedSimpArgs false
open Go

section
variable {F : Fo} {ρ : Pl} {S : St} {w w' w1 : World} {P : Program}

/-! ### A row that begins elsewhere in its block -/

theorem Ext.move (hR : R F ρ S w P) {id off : Nat} {ob ob' : AObj} (hid : S.get id = some ob) (hown : ob.own = true) (hk : ob.kin ob') (hv : ob.ver < ob'.ver) (hfl : S.floor ≤ id)
    (hsz : w'.heap.size = w.heap.size) (hne : ∀ b, b ≠ (ρ.at id).1 → w'.heap[b]? = w.heap[b]?) (hc : Calm w w') :
    Ext ρ S w (ρ.new id ((ρ.at id).1, off)) (S.put id ob') w' where
  size := Nat.le_of_eq hsz.symm
  next := Nat.le_refl _
  born j h := by
    by_cases e : j = id
    · subst e; simp [Pl.new_self]
    · rw [Pl.new_ne _ _ e]; exact h
  out b hb hno := by
    refine ⟨fun ⟨j, o1, h1, h2, h3⟩ => ?_, hne b fun e => hno ⟨id, ob, hid, hown, e.symm⟩⟩
    rw [St.get_put] at h1
    by_cases e : j = id
    · subst e; rw [Pl.at_new_self] at h3; exact hno ⟨j, ob, hid, hown, h3⟩
    · rw [if_neg e] at h1; rw [Pl.at_new_ne _ _ e] at h3; exact hno ⟨j, o1, h1, h2, h3⟩
  ob j o' _ ho := by
    rw [St.get_put] at ho
    by_cases e : j = id
    · subst e; rw [if_pos rfl] at ho; cases ho
      exact ⟨ob, hid, hk, Nat.le_of_lt hv, fun e => by omega⟩
    · rw [if_neg e] at ho
      exact ⟨o', ho, o'.kin_refl, Nat.le_refl _, fun _ => ⟨Pl.at_new_ne _ _ e, SameRoom.congr (hne _ (hR.apart hid hown ho e))⟩⟩
  flr := rfl
  low j hj := by
    have e : j ≠ id := by omega
    exact ⟨St.get_put_ne S ob' e, Pl.new_ne _ _ e, fun o1 ho => hne _ (hR.apart hid hown ho e)⟩
  calm := hc

theorem R.move (hR : R F ρ S w P) {id off : Nat} {ob ob' : AObj} (hid : S.get id = some ob) (hown : ob.own = true)
    (hE : Ext ρ S w (ρ.new id ((ρ.at id).1, off)) (S.put id ob') w') (hne : ∀ b, b ≠ (ρ.at id).1 → w'.heap[b]? = w.heap[b]?)
    (hob : ObR F (ρ.new id ((ρ.at id).1, off)) (S.put id ob') w' P id ob') : R F (ρ.new id ((ρ.at id).1, off)) (S.put id ob') w' P := by
  refine hR.go hE ?_ ?_ ?_ ?_ ?_
  · intro j h
    by_cases e : j = id
    · subst e; exact hR.lt _ (hR.ob _ _ hid).1
    · rw [Pl.new_ne _ _ e] at h; exact hR.lt _ h
  · intro j o1 h1
    rw [St.get_put] at h1
    by_cases e : j = id
    · subst e; rw [if_pos rfl] at h1; cases h1; exact .inr ⟨by simp [Pl.new_self], hob⟩
    · rw [if_neg e] at h1; exact .inl ⟨(hR.ob _ _ h1).1, h1, fun _ => hne _ (hR.apart hid hown h1 e)⟩
  · intro j j' o1 o2 h1 h2 h3 h4 he
    rw [St.get_put] at h1 h2
    by_cases e : j = id
    · by_cases e' : j' = id
      · rw [e, e']
      · rw [if_neg e'] at h2; subst e; rw [Pl.at_new_self, Pl.at_new_ne _ _ e'] at he
        exact absurd he.symm (hR.apart hid hown h2 e')
    · rw [if_neg e] at h1
      by_cases e' : j' = id
      · subst e'; rw [Pl.at_new_self, Pl.at_new_ne _ _ e] at he
        exact absurd he (hR.apart hid hown h1 e)
      · rw [if_neg e'] at h2; rw [Pl.at_new_ne _ _ e, Pl.at_new_ne _ _ e'] at he; exact hR.inj _ _ _ _ h1 h2 h3 h4 he
  · intro j o1 h1 h2 h3
    rw [St.get_put] at h1
    by_cases e : j = id
    · subst e; rw [Pl.at_new_self] at h3; exact hR.away _ _ hid hown h3
    · rw [if_neg e] at h1; rw [Pl.at_new_ne _ _ e] at h3; exact hR.away _ _ h1 h2 h3
  · intro j h
    have hj := (hR.res j h).1
    rw [Pl.new_ne _ _ fun e : j = id => by have := (hR.ob _ _ hid).1; rw [← e, hj] at this; cases this]
    exact hj

/-! ### What the model's append does -/

theorem run_append_room {t u ty e : TypeId} {du : TypeDesc} {sz n len cap : Nat} {base : Option Addr} {x : Value} {news : List Value} (ht : P.underlying t = some (.slice e)) (hu : P.underlying u = some du) (hd : ∀ k, du ≠ .int k)
    (hsz : szOf P e = some sz) (hl : (Builtin.lenOf x).run P w = .ok n w) (hf : (Builtin.firstCells sz n x).run P w = .ok news.toArray w) (hroom : len + n ≤ cap)
    (ha : ∀ a, base = some a → (storeCells (a.add (len * sz)) news).run P w = .ok () w') (hn : base = none → w' = w) :
    (Builtin.append_ #[t, u] ty #[.slice base len cap, x]).run P w = .ok (.slice base (len + n) cap) w' := by
  have hz : (match du with | .int _ => true | _ => false) = false := by cases du <;> first | rfl | exact absurd rfl (hd _)
  cases base with
  | none => rw [hn rfl]; simp [Builtin.append_, run_und ht, run_und hu, run_size hsz, hz, hl, hf, hroom]
  | some a => simp [Builtin.append_, run_und ht, run_und hu, run_size hsz, hz, hl, hf, hroom, ha a rfl]

theorem run_append_new {t u ty e : TypeId} {du : TypeDesc} {i : TypeInfo} {z : Value} {n len cap : Nat} {base : Option Addr} {x : Value} {olds news : List Value} (ht : P.underlying t = some (.slice e)) (hu : P.underlying u = some du) (hd : ∀ k, du ≠ .int k)
    (hi : P.info? e = some i) (hz : i.zero = some z) (hl : (Builtin.lenOf x).run P w = .ok n w)
    (hf : ∀ w1, w1.heap = w.heap → (Builtin.firstCells i.size n x).run P w1 = .ok news.toArray w1) (ho : ∀ w1, w1.heap = w.heap → (Builtin.firstCells i.size len (.slice base len cap)).run P w1 = .ok olds.toArray w1)
    (hroom : ¬ len + n ≤ cap) (hb : (len + n) * i.bytes ≤ 140737488355328) (hb0 : i.bytes ≠ 0) :
    (Builtin.append_ #[t, u] ty #[.slice base len cap, x]).run P w =
      .ok (.slice (some ⟨w.heap.size, 0, none⟩) (len + n) (grownCap w (len + n) cap e)) (w.drew.alloc (.cells (olds.toArray ++ news.toArray ++ Builtin.zeroCells z.cells (grownCap w (len + n) cap e - (len + n))) e)) := by
  have hzz : (match du with | .int _ => true | _ => false) = false := by cases du <;> first | rfl | exact absurd rfl (hd _)
  have h63 : len + n ≤ 140737488355328 := Nat.le_trans (Nat.le_mul_of_pos_right _ (by omega)) hb
  have h63' : ¬ (9223372036854775807 < ((len : Int) + (n : Int))) := by omega
  have h48 := growslice_fits (by omega : cap < len + n) hb
  have h48' : ¬ (281474976710656 < Builtin.nextslicecap (len + n) cap * i.bytes) := by omega
  have hf' := hf w.drew rfl
  have ho' := ho w.drew rfl
  simp [Builtin.append_, run_und ht, run_und hu, sizeOf, typeInfo, zeroValue, hi, hz, hzz, hl, hroom, h63', h48', hb0, Question.forced, hf', ho', newRow, grownCap]
  congr 2
  apply Array.ext'
  simp [List.append_assoc]

/-- An effect that is done: where things lie now, and what it yields. -/
structure Eff (F : Fo) (ρ : Pl) (S : St) (w : World) (P : Program) (S' : St) (v : AVal) (u : Value) (w' : World) (ρ' : Pl) : Prop where
  r : R F ρ' S' w' P
  ext : Ext ρ S w ρ' S' w'
  val : AR F ρ' S' w' P v u

theorem lies_eq {b off : Nat} {vs : List Value} {c : Array Value} {e : TypeId} {fz : Nat × Nat} (h : Lies w b off vs) (hb : w.heap[b]? = some (.cells c e fz)) : (c.toList.drop off).take vs.length = vs ∧ off + vs.length ≤ c.size := by
  obtain ⟨c', e', fz', pre, post, h1, h2, h3⟩ := h
  rw [hb] at h1; cases h1
  rw [h2, ← h3, List.drop_left, List.take_left]
  refine ⟨rfl, ?_⟩
  rw [← Array.length_toList, h2]; simp <;> omega

theorem append_new (hR : R F ρ S w P) (hfn : S.floor ≤ S.next) {t u ty e : TypeId} {i : TypeInfo} {z : Value} {n len cap : Nat} {base : Option Addr} {x : Value} {olds news : List Value} {cs : List Cell}
    (hcs : All2 (CR F ρ S w P) cs (olds ++ news)) (h0 : i.size ≠ 0) (hlen : (olds ++ news).length = (len + n) * i.size) (hzs : z.cells.size = i.size)
    (hrun : (Builtin.append_ #[t, u] ty #[.slice base len cap, x]).run P w =
      .ok (.slice (some ⟨w.heap.size, 0, none⟩) (len + n) (grownCap w (len + n) cap e)) (w.drew.alloc (.cells (olds.toArray ++ news.toArray ++ Builtin.zeroCells z.cells (grownCap w (len + n) cap e - (len + n))) e))) (t' : TypeId) :
    ∃ r w' ρ', (Builtin.append_ #[t, u] ty #[.slice base len cap, x]).run P w = .ok r w' ∧ Eff F ρ S w P (S.alloc (.row t' i.size 0 cs)) (cv (.sl S.next 0 0 (len + n) false)) r w' ρ' := by
  have hn := fresh_none hR
  have hge := grownCap_ge w (len + n) cap e
  have hsz : (Builtin.zeroCells z.cells (grownCap w (len + n) cap e - (len + n))).size = (grownCap w (len + n) cap e - (len + n)) * i.size := by
    simp [Builtin.zeroCells, hzs]
  have hm := made_sl (F := F) (P := P) (w1 := w.drew) (n := S.next) (nx := S.next + 1) (t := t') (sz := i.size) (e := e) (lo := 0) (hi := 0) (len := len + n) (cap := grownCap w (len + n) cap e) (cl := false)
    (c := olds.toArray ++ news.toArray ++ Builtin.zeroCells z.cells (grownCap w (len + n) cap e - (len + n))) (vs := olds ++ news) (post := (Builtin.zeroCells z.cells (grownCap w (len + n) cap e - (len + n))).toList)
    hR .rfl' hn (Nat.le_succ _) (Nat.lt_succ_self _) hfn (by omega) (.inl (Nat.le_refl _)) (by simp) hcs hge (fun h => by cases h) (by
      have e1 : (olds.toArray ++ news.toArray ++ Builtin.zeroCells z.cells (grownCap w (len + n) cap e - (len + n))).size = (len + n) * i.size + (grownCap w (len + n) cap e - (len + n)) * i.size := by
        rw [Array.size_append, hsz, ← hlen]; simp
      rw [e1, ← Nat.add_mul]
      exact Nat.mul_le_mul_right _ (by omega))
  exact ⟨_, _, _, hrun, hm.r, hm.ext, hm.val⟩

theorem anew_row (hR : R F ρ S w P) (hw : Alike w w1) {id ver sz : Nat} {t t' : TypeId} {cs0 cs : List Cell} (hid : S.get id = some (.row t sz ver cs0)) (hfl : S.floor ≤ id) (h0 : 0 < sz)
    {vs post : List Value} {c : Array Value} {e : TypeId} {len cap : Nat} (hc : c.toList = vs ++ post)
    (hv : All2 (CR F ρ S w P) cs vs) (hcap : len ≤ cap) (hroom : cap * sz ≤ c.size) :
    Eff F ρ S w P (S.put id (.row t' sz (ver + 1) cs)) (cv (.sl id (ver + 1) 0 len false)) (.slice (some ⟨w.heap.size, 0, none⟩) len cap) (w1.alloc (.cells c e)) (ρ.new id (w.heap.size, 0)) := by
  have hR1 := hR.same hw
  have hE1 := Ext.anew hR1 (ob' := .row t' sz (ver + 1) cs) (.cells c e) hid rfl (Nat.lt_succ_self _) hfl
  rw [hw.heap] at hE1
  have hE : Ext ρ S w (ρ.new id (w.heap.size, 0)) (S.put id (.row t' sz (ver + 1) cs)) (w1.alloc (.cells c e)) := (Ext.same hw).trans hE1
  have hb : (w1.alloc (.cells c e)).heap[w.heap.size]? = some (.cells c e (0, 0)) := by rw [← hw.heap]; exact alloc_get_new w1 _
  have hr := R.anew (o := .cells c e) (ob' := .row t' sz (ver + 1) cs) hR1 hid (by rw [hw.heap]; exact hE1)
    (by
      rw [hw.heap]
      refine ⟨h0, c, e, 0, 0, [], vs, post, ?_, .inl (Nat.le_refl _), hc, ?_, hv.mono fun _ _ h => h.ext hE⟩
      · rw [Pl.at_new_self]; exact hb
      · rw [Pl.at_new_self]; rfl)
  rw [hw.heap] at hr
  refine ⟨hr, hE, by simp [Pl.new_self], _, _, rfl, hcap, (fun h => nomatch h), fun sz' ver' hro => ?_⟩
  have : sz' = sz ∧ ver' = ver + 1 := by
    rcases hro with ⟨t1, c1, h⟩ | ⟨e1, h⟩ <;> rw [St.get_put_self] at h <;> cases h
    exact ⟨rfl, rfl⟩
  obtain ⟨rfl, rfl⟩ := this
  refine ⟨Nat.le_refl _, fun _ _ => ?_⟩
  rw [Pl.at_new_self]
  exact ⟨by simp, c, e, (0, 0), hb, by simpa using hroom⟩

/-- In place. -/
theorem append_place (hR : R F ρ S w P) {id ver sz off len n cap : Nat} {t t' : TypeId} {cs0 cs : List Cell} {a : Option Addr} (hid : S.get id = some (.row t sz ver cs0)) (hfl : S.floor ≤ id) (h0 : 0 < sz)
    (ha : 0 < cap → a = some ⟨(ρ.at id).1, (ρ.at id).2 + off * sz, none⟩ ∧ Room w (ρ.at id).1 ((ρ.at id).2 + (off + cap) * sz)) {olds news : List Value} (hol : olds.length = len * sz) (hnl : news.length = n * sz) (hn : 0 < n)
    (hlies : olds ≠ [] → ∃ b o, a = some ⟨b, o, none⟩ ∧ Lies w b o olds) (hv : All2 (CR F ρ S w P) cs (olds ++ news)) (h1 : ∀ v ∈ news, v.oneCell' = true) (hcap : len + n ≤ cap) :
    ∃ w' b o, a = some ⟨b, o, none⟩ ∧ (storeCells ⟨b, o + len * sz, none⟩ news).run P w = .ok () w' ∧
      Eff F ρ S w P (S.put id (.row t' sz (ver + 1) cs)) (cv (.sl id (ver + 1) 0 (len + n) false)) (.slice a (len + n) cap) w' (ρ.new id ((ρ.at id).1, (ρ.at id).2 + off * sz)) := by
  obtain ⟨ha1, hroom⟩ := ha (by omega)
  obtain ⟨_, c, e, lo, hi, pre, vs, post, g1, g2, g3, g4, g5⟩ := (hR.ob _ _ hid).2
  obtain ⟨c', e', fz', q1, q2⟩ := hroom
  rw [g1] at q1; cases q1
  have hmul : (off + cap) * sz = off * sz + cap * sz := Nat.add_mul _ _ _
  have hmul2 : (len + n) * sz = len * sz + n * sz := Nat.add_mul _ _ _
  have hmul3 : (len + n) * sz ≤ cap * sz := Nat.mul_le_mul_right _ hcap
  have hold : (c.toList.drop ((ρ.at id).2 + off * sz)).take (len * sz) = olds := by
    by_cases ho : olds = []
    · subst ho
      simp only [List.length_nil] at hol
      rw [← hol, List.take_zero]
    · obtain ⟨b, o, e1, e2⟩ := hlies ho
      rw [ha1] at e1; cases e1
      rw [← hol]
      exact (lies_eq e2 g1).1
  have hrun := storeCells_run P (ρ.at id).1 ((ρ.at id).2 + off * sz + len * sz) e lo hi news 0 c w g1 g2 (by omega) h1
  simp only [Nat.add_zero] at hrun
  generalize hk : (ρ.at id).2 + off * sz = k at *
  have hA : (c.toList.take k).length = k := by rw [List.length_take, Array.length_toList]; omega
  have hnew : c.toList.take (k + len * sz) ++ news ++ c.toList.drop (k + len * sz + news.length) = c.toList.take k ++ ((olds ++ news) ++ c.toList.drop (k + len * sz + news.length)) := by
    rw [List.take_add, hold]; simp [List.append_assoc]
  rw [hnew] at hrun
  generalize hc2 : (c.toList.take k ++ ((olds ++ news) ++ c.toList.drop (k + len * sz + news.length))).toArray = c2 at hrun
  have hsz : c2.size = c.size := by
    rw [← hc2]
    simp only [List.size_toArray, List.length_append, hA, hol, hnl, List.length_drop, Array.length_toList]
    omega
  refine ⟨_, _, _, ha1, hrun, ?_⟩
  have hne : ∀ b, b ≠ (ρ.at id).1 → (w.setRow (ρ.at id).1 c2).heap[b]? = w.heap[b]? := fun b hb => setRow_other w _ b _ hb
  have hb := setRow_heap w _ c c2 e _ g1
  have hE : Ext ρ S w (ρ.new id ((ρ.at id).1, k)) (S.put id (.row t' sz (ver + 1) cs)) (w.setRow (ρ.at id).1 c2) :=
    Ext.move hR hid rfl rfl (Nat.lt_succ_self _) hfl (setRow_size _ _ _) hne ⟨rfl, rfl⟩
  have hr := R.move hR hid rfl hE hne (by
    refine ⟨h0, c2, e, lo, hi, c.toList.take k, olds ++ news, c.toList.drop (k + len * sz + news.length), ?_, by rw [hsz]; exact g2, by rw [← hc2], ?_, hv.mono fun _ _ h => h.ext hE⟩
    · rw [Pl.at_new_self]; exact hb
    · rw [Pl.at_new_self]; exact hA)
  refine ⟨hr, hE, by simp [Pl.new_self], _, _, rfl, hcap, (fun h => nomatch h), fun sz' ver' hro => ?_⟩
  have : sz' = sz ∧ ver' = ver + 1 := by
    rcases hro with ⟨t1, c1, h⟩ | ⟨e1, h⟩ <;> rw [St.get_put_self] at h <;> cases h
    exact ⟨rfl, rfl⟩
  obtain ⟨rfl, rfl⟩ := this
  refine ⟨Nat.le_refl _, fun _ _ => ?_⟩
  rw [Pl.at_new_self]
  refine ⟨by rw [ha1]; simp, c2, e, (lo, hi), hb, ?_⟩
  rw [hsz]
  simp only [Nat.zero_add]
  omega

theorem evAppend_ok (hR : R F ρ S w P) (hfn : S.floor ≤ S.next) {t u ty e : TypeId} {i : TypeInfo} {z : Value} {du : TypeDesc} {x y v : AVal} {xv yv : Value} {S' : St} (ht : P.underlying t = some (.slice e)) (hu : P.underlying u = some du) (hd : ∀ k, du ≠ .int k)
    (hi : P.info? e = some i) (hz : i.zero = some z) (hzs : z.cells.size = i.size) (h0 : i.size ≠ 0) (hb0 : i.bytes ≠ 0) (h : evAppend S e i.size i.bytes x y = some (v, S')) (hx : AR F ρ S w P x xv) (hy : AR F ρ S w P y yv) :
    ∃ r w' ρ', (Builtin.append_ #[t, u] ty #[xv, yv]).run P w = .ok r w' ∧ Eff F ρ S w P S' v r w' ρ' := by
  have hsz : szOf P e = some i.size := by unfold szOf; rw [hi]; rfl
  unfold evAppend at h
  split at h
  · rename_i c d hc hd'
    have hxc := hx.cell0 hc
    split at h
    · cases h
    · rename_i hm
      split at h
      · rename_i hs
        cases h
        obtain ⟨k1, k2, vs, k3, k4, k5⟩ := more_ok hR h0 hm (hy.cell0 hd')
        have hv0 : vs = [] := by cases vs with
          | nil => rfl
          | cons _ _ => simp at k4
        subst hv0
        have k6 := k5 0 w (Nat.le_refl _) rfl
        obtain ⟨a, len, cap, rfl, hle⟩ : ∃ a len cap, xv = .slice a len cap ∧ len ≤ cap := by
          cases c with
          | d d =>
            cases d with
            | sl els cl => cases (show VD _ _ _ _ from hxc) with
              | sl _ _ a cap sz b off vs hle _ _ _ _ _ => exact ⟨_, _, _, rfl, hle⟩
            | _ => simp [isSl] at hs
          | sl id ver off len cl => obtain ⟨_, a, cap, e, h1, _⟩ := hxc; exact ⟨_, _, _, e, h1⟩
          | _ => simp [isSl] at hs
        refine ⟨_, w, ρ, run_append_room (w' := w) (n := 0) (news := []) ht hu hd hsz k1 (by simpa using k6) (by simpa using hle) (fun _ _ => rfl) (fun _ => rfl), hR, Ext.refl _ _ _, ?_⟩
        exact hx
      · cases h
    · rename_i m0 more0 hm
      generalize hmore : m0 :: more0 = more at *
      have hmp : 0 < more.length := by rw [← hmore]; simp
      unfold appendMore at h
      split at h
      · cases h
      · rename_i old ho
        split at h
        · cases h
        · rename_i hbb
          rw [ble_iff] at hbb
          obtain ⟨k1, k2, nvs, k3, k4, k5⟩ := more_ok hR h0 hm (hy.cell0 hd')
          obtain ⟨a, cap, ovs, rfl, o1, o2, o3, o4⟩ := elems_ok hR h0 ho hxc
          have ovl : ovs.length = old.length * i.size := by rw [← o3.length]; exact flatten_len old o2
          have hold : ∀ w1, w1.heap = w.heap → (Builtin.firstCells i.size old.length (.slice a old.length cap)).run P w1 = .ok ovs.toArray w1 := by
            intro w1 hw
            have := run_first (P := P) (cap := cap) ovl (Nat.le_refl _) h0 o4 hw
            rwa [List.take_of_length_le (by omega)] at this
          have hnew : ∀ w1, w1.heap = w.heap → (Builtin.firstCells i.size more.length yv).run P w1 = .ok nvs.toArray w1 := by
            intro w1 hw
            have := k5 more.length w1 (Nat.le_refl _) hw
            rwa [List.take_of_length_le (by omega)] at this
          cases hsh : shutEls S more with
          | mk S1 more' =>
          rw [hsh] at h
          simp only at h
          obtain ⟨s1, s2, s3, s4, s5⟩ := shutEls_ok hR hsh k3 k2
          have hcs : All2 (CR F ρ S1 w P) (old ++ more').flatten (ovs ++ nvs) := by
            rw [List.flatten_append]; exact (o3.mono fun _ _ h => h.ext s2).append s3
          have hnl : (ovs ++ nvs).length = (old.length + more.length) * i.size := by rw [List.length_append, ovl, k4, Nat.add_mul]
          have hfn1 : S1.floor ≤ S1.next := by rw [s2.flr]; exact Nat.le_trans hfn s2.next
          have hgrow : ¬ old.length + more.length ≤ cap → _ := fun hroom => run_append_new (ty := ty) ht hu hd hi hz k1 hnew hold hroom (by omega) hb0
          have fresh : ¬ old.length + more.length ≤ cap → some (cv (.sl S1.next 0 0 (old.length + more.length) false), S1.alloc (.row e i.size 0 (old ++ more').flatten)) = some (v, S') →
              ∃ r w' ρ', (Builtin.append_ #[t, u] ty #[.slice a old.length cap, yv]).run P w = .ok r w' ∧ Eff F ρ S w P S' v r w' ρ' := by
            intro hroom he
            cases he
            obtain ⟨r, w', ρ', g1, g2⟩ := append_new s1 hfn1 hcs h0 hnl hzs (hgrow hroom) e
            exact ⟨r, w', ρ', g1, g2.r, s2.trans g2.ext, g2.val⟩
          unfold appendTo at h
          split at h
          · rename_i els
            refine fresh ?_ h
            obtain ⟨a', cap', e1, _, hcl⟩ := VD.sl_inv hxc
            have hcl := hcl rfl
            injection e1 with e1 e2 e3
            omega
          · rename_i id ver off len
            obtain ⟨_, a', cap', e1, g1, g2, _⟩ := hxc
            cases e1
            refine fresh ?_ h
            have := g2 rfl; omega
          · rename_i id ver off len
            split at h
            · rename_i t1 sz' ver' cs0 hg
              split at h
              · rename_i hb
                cases h
                simp only [Bool.and_eq_true] at hb
                obtain ⟨⟨b1, b2⟩, b3⟩ := hb
                rw [beq_iff] at b1 b2; rw [ble_iff] at b3
                subst b1; subst b2
                obtain ⟨_, a', cap', e1, g1, g2, g3⟩ := C0.ext s2 hxc
                cases e1
                have g4 := (g3 _ ver (.inl ⟨t1, cs0, hg⟩)).2 rfl
                by_cases hroom : old.length + more.length ≤ cap
                · obtain ⟨w', b, o, q1, q2, q3⟩ := append_place (t' := e) s1 hg b3 (by omega) g4 ovl k4 hmp o4 hcs (oneCells s3) hroom
                  refine ⟨_, w', _, run_append_room (w' := w') ht hu hd hsz k1 (hnew w rfl) hroom ?_ ?_, q3.r, s2.trans q3.ext, q3.val⟩
                  · intro a2 ha2
                    rw [q1] at ha2; cases ha2
                    have : (⟨b, o, none⟩ : Addr).add (old.length * i.size) = ⟨b, o + old.length * i.size, none⟩ := by unfold Addr.add; split <;> simp_all
                    rw [this]; exact q2
                  · intro hn; rw [q1] at hn; cases hn
                · have hge := grownCap_ge w (old.length + more.length) cap e
                  have q := anew_row (w1 := w.drew) (t' := e) (e := e) (c := ovs.toArray ++ nvs.toArray ++ Builtin.zeroCells z.cells (grownCap w (old.length + more.length) cap e - (old.length + more.length))) (vs := ovs ++ nvs)
                    (post := (Builtin.zeroCells z.cells (grownCap w (old.length + more.length) cap e - (old.length + more.length))).toList) s1 .rfl' hg b3 (by omega) (by simp) hcs hge (by
                      have e1 : (ovs.toArray ++ nvs.toArray ++ Builtin.zeroCells z.cells (grownCap w (old.length + more.length) cap e - (old.length + more.length))).size = (old.length + more.length) * i.size + (grownCap w (old.length + more.length) cap e - (old.length + more.length)) * i.size := by
                        rw [Array.size_append, ← hnl]; simp [Builtin.zeroCells, hzs]
                      rw [e1, ← Nat.add_mul]
                      exact Nat.mul_le_mul_right _ (by omega))
                  exact ⟨_, _, _, hgrow hroom, q.r, s2.trans q.ext, q.val⟩
              · cases h
            · cases h
          · cases h
  · cases h

end
end Go.Rf
