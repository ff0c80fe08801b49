/- How the machine's states stand for worlds: values, objects, temporaries; and what stays when a world goes on. -/
import Derived.Test.YtcdebohjjkffkaaGreatRfP
import Derived.WalkKit
namespace Go.Rf
set_option linter.unusedVariables false
set_option linter.unusedSimpArgs false
open Go

/-! ## Memory -/

/-- From a place on these values lie in a block of cells. -/
def Lies (w : World) (b off : Nat) (vs : List Value) : Prop :=
  ∃ (c : Array Value) (e : TypeId) (fz : Nat × Nat) (pre post : List Value), w.heap[b]? = some (.cells c e fz) ∧ c.toList = pre ++ (vs ++ post) ∧ pre.length = off

theorem Lies.congr {w w' : World} {b off : Nat} {vs : List Value} (h : Lies w b off vs) (hb : w'.heap[b]? = w.heap[b]?) : Lies w' b off vs := by
  obtain ⟨c, e, fz, pre, post, h1, h2, h3⟩ := h
  exact ⟨c, e, fz, pre, post, hb.trans h1, h2, h3⟩

theorem Lies.drop {w : World} {b off : Nat} {vs : List Value} (h : Lies w b off vs) (n : Nat) (hn : n ≤ vs.length) : Lies w b (off + n) (vs.drop n) := by
  obtain ⟨c, e, fz, pre, post, h1, h2, h3⟩ := h
  refine ⟨c, e, fz, pre ++ vs.take n, post, h1, ?_, by simp [h3]; omega⟩
  rw [h2, List.append_assoc, ← List.append_assoc (vs.take n), List.take_append_drop]

theorem Lies.take {w : World} {b off : Nat} {vs : List Value} (h : Lies w b off vs) (n : Nat) : Lies w b off (vs.take n) := by
  obtain ⟨c, e, fz, pre, post, h1, h2, h3⟩ := h
  refine ⟨c, e, fz, pre, vs.drop n ++ post, h1, ?_, h3⟩
  rw [h2, ← List.append_assoc (vs.take n), List.take_append_drop]

theorem Lies.cell {w : World} {b off : Nat} {vs : List Value} (h : Lies w b off vs) {k : Nat} {v : Value} (hk : vs[k]? = some v) :
    w.cell? ⟨b, off + k, none⟩ = some v := by
  obtain ⟨c, e, fz, pre, post, h1, h2, h3⟩ := h
  have hlt : k < vs.length := by
    cases Nat.lt_or_ge k vs.length with
    | inl h => exact h
    | inr h => rw [List.getElem?_eq_none h] at hk; cases hk
  have : c[off + k]? = some v := by
    rw [← Array.getElem?_toList, h2, List.getElem?_append_right (by omega)]
    have : off + k - pre.length = k := by omega
    rw [this, List.getElem?_append_left hlt, hk]
  simp [World.cell?, h1, this]

/-! ## Data -/

/-- A value of the model reads as a datum: in blocks that `ro` says. -/
inductive VD (w : World) (ro : Nat → Prop) : Dat → Value → Prop where
  | bool (b : Bool) : VD w ro (.bool b) (.bool b)
  | int (k : IntKind) (n : Int) : VD w ro (.int k n) (.int k n)
  | flt (k : FloatKind) (n : Nat) : VD w ro (.flt k n) (.float k n)
  | str (s : ByteArray) : VD w ro (.str (bytesOf s)) (.string s)
  | nilp : VD w ro .nilp (.pointer none)
  | nilm : VD w ro .nilm (.map none)
  | nilf : VD w ro .nilf .nilFunc
  | nili : VD w ro .nili .nilIface
  | sl (els : List (List Dat)) (cl : Bool) (a : Option Addr) (cap sz b off : Nat) (vs : List Value)
      (hle : els.length ≤ cap) (hcl : cl = true → cap = els.length) (hsz : ∀ e ∈ els, e.length = sz)
      (hlen : vs.length = els.flatten.length) (ha : vs ≠ [] → a = some ⟨b, off, none⟩ ∧ ro b ∧ Lies w b off vs)
      (hv : ∀ (k : Nat) (x : Dat) (v : Value), els.flatten[k]? = some x → vs[k]? = some v → VD w ro x v) :
      VD w ro (.sl els cl) (.slice a els.length cap)

theorem VD.mono {w w' : World} {ro ro' : Nat → Prop} (h : ∀ b, ro b → ro' b ∧ w'.heap[b]? = w.heap[b]?) {d : Dat} {v : Value} (hd : VD w ro d v) : VD w' ro' d v := by
  induction hd with
  | bool b => exact .bool b
  | int k n => exact .int k n
  | flt k n => exact .flt k n
  | str s => exact .str s
  | nilp => exact .nilp
  | nilm => exact .nilm
  | nilf => exact .nilf
  | nili => exact .nili
  | sl els cl a cap sz b off vs hle hcl hsz hlen ha hv ih =>
    exact .sl els cl a cap sz b off vs hle hcl hsz hlen (fun hne => let ⟨h1, h2, h3⟩ := ha hne; ⟨h1, (h b h2).1, h3.congr (h b h2).2⟩) ih

/-! ## States -/

/-- Where an object lies: its block, and how far in. -/
abbrev Pl := Nat → Option (Nat × Nat)

def Pl.at (ρ : Pl) (id : Nat) : Nat × Nat := (ρ id).getD (0, 0)

def AObj.own : AObj → Bool
  | .fro .. => false
  | _ => true

def AObj.ver : AObj → Nat
  | .row _ _ v _ => v
  | .fro _ v _ => v
  | _ => 0

/-- Rows have versions; the others have none. -/
def AObj.tag : AObj → Nat
  | .row .. => 0
  | .fro .. => 0
  | .map .. => 1
  | .mit .. => 2
  | .sit .. => 2
  | .lp .. => 3
  | .dfb _ => 4

theorem AObj.ver_of_tag {o : AObj} (h : o.tag ≠ 0) : o.ver = 0 := by cases o <;> simp [AObj.tag] at h <;> rfl

/-- A block that an object of one's own has. -/
def Own (ρ : Pl) (S : St) (b : Nat) : Prop := ∃ id o, S.get id = some o ∧ o.own = true ∧ (ρ.at id).1 = b

/-- What others have: blocks, and numbers of objects. -/
structure Fo where
  blk : Nat → Prop
  ids : Nat → Prop

instance : CoeFun Fo (fun _ => Nat → Prop) := ⟨Fo.blk⟩

/-- A number that is free. -/
def Free (F : Fo) (ρ : Pl) (n : Nat) : Prop := ρ n = none ∧ ¬ F.ids n

/-- A block that nobody writes: neither one's own nor another one's. -/
def Ro (F : Fo) (ρ : Pl) (S : St) (w : World) (b : Nat) : Prop := b < w.heap.size ∧ ¬ Own ρ S b ∧ ¬ F b

/-- A slice's or a pointer's row: its elements' size and version. -/
def rowOf (S : St) (id sz ver : Nat) : Prop := (∃ t cs, S.get id = some (.row t sz ver cs)) ∨ (∃ els, S.get id = some (.fro sz ver els))

/-- A block of cells has room. -/
def Room (w : World) (b n : Nat) : Prop := ∃ c e fz, w.heap[b]? = some (.cells c e fz) ∧ n ≤ c.size

/-- A key stands for a value. -/
def KeyR : KeyK → List Dat → Value → Prop
  | .int q, key, v => ∃ n, key = [.int q n] ∧ v = .int q n
  | .str, key, v => ∃ b, key = [.str (bytesOf b)] ∧ v = .string b
  | .strs n, key, v => ∃ bs : List ByteArray, bs.length = n ∧ key = bs.map (fun b => .str (bytesOf b)) ∧ v = .agg (bs.map Value.string).toArray

section
variable (F : Fo) (ρ : Pl) (S : St) (w : World)

def C0 : Cell0 → Value → Prop
  | .d x, v => VD w (Ro F ρ S w) x v
  | .ptr id ver off, v => (ρ id).isSome = true ∧ ∃ a, v = .pointer (some a) ∧
      ∀ sz ver', rowOf S id sz ver' → ver ≤ ver' ∧ (ver = ver' → a = ⟨(ρ.at id).1, (ρ.at id).2 + off, none⟩)
  | .ro cs, v => ∃ b off vs, v = .pointer (some ⟨b, off, none⟩) ∧ vs.length = cs.length ∧ (vs ≠ [] → Ro F ρ S w b ∧ Lies w b off vs) ∧ All2 (VD w (Ro F ρ S w)) cs vs
  | .sl id ver off len cl, v => (ρ id).isSome = true ∧ ∃ a cap, v = .slice a len cap ∧ len ≤ cap ∧ (cl = true → cap = len) ∧
      ∀ sz ver', rowOf S id sz ver' → ver ≤ ver' ∧
      (ver = ver' → 0 < cap → a = some ⟨(ρ.at id).1, (ρ.at id).2 + off * sz, none⟩ ∧ Room w (ρ.at id).1 ((ρ.at id).2 + (off + cap) * sz))
  | .mp id, v => (ρ id).isSome = true ∧ ∃ r, v = .map (some r) ∧ (∀ o, S.get id = some o → o.tag = 1 → r = (ρ.at id).1)
  | .it id, v => (ρ id).isSome = true ∧ ∃ r, v = .pointer (some ⟨r, 0, none⟩) ∧ (∀ o, S.get id = some o → o.tag = 2 → r = (ρ.at id).1)

def V0 (x : Vl0) (v : Value) : Prop :=
  match x.agg, x.cs with
  | false, [c] => C0 F ρ S w c v
  | _, cs => ∃ a, v = .agg a ∧ All2 (C0 F ρ S w) cs a.toList

/-- What a function value calls. -/
def Calls1 (P : Program) (f : Fn) (g : FuncId) (first caps : List Vl0) : Prop := fnOf P f = some g ∧ ((∃ h, f = .func h) ∨ (first ≠ [] ∧ caps = []))

variable (P : Program)

def CR : Cell → Value → Prop
  | .s c, v => C0 F ρ S w c v
  | .fn f g first caps, v => ∃ a b, v = .func f a b ∧ All2 (V0 F ρ S w) first a.toList ∧ All2 (V0 F ρ S w) caps b.toList ∧ Calls1 P f g first caps
  | .yld id, v => (ρ id).isSome = true ∧ ∃ r, v = .func (.yield r) #[] #[] ∧ (∀ o, S.get id = some o → o.tag = 3 → r = (ρ.at id).1)
  | .ifc t agg cs, v => ∃ u, v = .iface t u ∧ V0 F ρ S w ⟨agg, cs⟩ u

def VlR : Vl → Value → Prop
  | .one c, v => CR F ρ S w P c v
  | .agg cs, v => ∃ a, v = .agg a ∧ All2 (CR F ρ S w P) cs a.toList

def AR : AVal → Value → Prop
  | .v x, v => VlR F ρ S w P x v
  | .tup l, v => ∃ a, v = .tuple a ∧ All2 (VlR F ρ S w P) l a.toList
  | .bad, _ => True

def SlR (slots : PM AVal) (tmps : Array Value) : Prop :=
  ∀ t, AR F ρ S w P ((slots.get t).getD (.tup [])) (tmps.getD t undef)

def EntR (k : KeyK) (e : AEnt) (m : MapEntry) : Prop :=
  e.born = m.born ∧ KeyR k e.key m.key ∧ VlR F ρ S w P e.val m.val

def PendR : Option (Option Nat) → Option Code → Prop
  | none, none => True
  | some none, some .ret => True
  | some (some id), some (.exit id') => id = id'
  | _, _ => False

def ObR (id : Nat) : AObj → Prop
  | .row _ sz _ cs => 0 < sz ∧ ∃ c e lo hi pre vs post, w.heap[(ρ.at id).1]? = some (.cells c e (lo, hi)) ∧ (hi ≤ lo ∨ c.size ≤ lo) ∧
      c.toList = pre ++ (vs ++ post) ∧ pre.length = (ρ.at id).2 ∧ All2 (CR F ρ S w P) cs vs
  | .fro sz _ els => 0 < sz ∧ (∀ e ∈ els, e.length = sz) ∧ Ro F ρ S w (ρ.at id).1 ∧ ∃ vs, Lies w (ρ.at id).1 (ρ.at id).2 vs ∧ All2 (VD w (Ro F ρ S w)) els.flatten vs
  | .map k es clock => ∃ ms : Array MapEntry, w.heap[(ρ.at id).1]? = some (.map ms clock) ∧ All2 (EntR F ρ S w P k) es ms.toList
  | .mit m since seen stepped => ∃ (sn : Array Nat) (mb : Option Nat), sn.toList = seen ∧ w.heap[(ρ.at id).1]? = some (.mapIter mb since sn stepped) ∧ (m = none → mb = none) ∧
      (∀ i, m = some i → (ρ i).isSome = true ∧ ∀ o, S.get i = some o → o.tag = 1 → mb = some (ρ.at i).1)
  | .sit s pos => ∃ b : ByteArray, bytesOf b = s ∧ w.heap[(ρ.at id).1]? = some (.stringIter b pos)
  | .lp st slots params assign body pending => ∃ (fn : FuncId) (f : Func) (tmps : Array Value) (ps : Array Tmp) (ca cb : Code) (pd : Option Code) (dfs : Nat),
      w.heap[(ρ.at id).1]? = some (.loop { state := st, pending := pd, fn, tmps, params := ps, assign := ca, body := cb, defers := dfs }) ∧
      ps.toList = params ∧ compCode P f.ntmps ca = some assign ∧ compCode P f.ntmps cb = some body ∧ f.ntmps ≤ tmps.size ∧ (∀ p ∈ params, p < f.ntmps) ∧
      SlR F ρ S w P slots tmps ∧ PendR pending pd
  | .dfb shut => w.heap[(ρ.at id).1]? = some (.deferred (match shut with | true => none | false => some []))

/-- The state stands for the world. -/
structure R : Prop where
  ob : ∀ id o, S.get id = some o → (ρ id).isSome = true ∧ ObR F ρ S w P id o
  lt : ∀ id, (ρ id).isSome = true → id < S.next
  inj : ∀ id id' o o', S.get id = some o → S.get id' = some o' → o.own = true → o'.own = true → (ρ.at id).1 = (ρ.at id').1 → id = id'
  away : ∀ id o, S.get id = some o → o.own = true → ¬ F (ρ.at id).1
  flt : ∀ b, F b → b < w.heap.size
  res : ∀ id, F.ids id → ρ id = none ∧ id < S.next

end

/-! ## A world that goes on -/

def AObj.kin : AObj → AObj → Prop
  | .row _ sz _ _, .row _ sz' _ _ => sz = sz'
  | .row _ sz _ _, .fro sz' _ _ => sz = sz'
  | .fro sz _ els, .fro sz' _ els' => sz = sz' ∧ els = els'
  | .map .., .map .. => True
  | .mit .., .mit .. => True
  | .sit .., .sit .. => True
  | .lp .., .lp .. => True
  | .dfb _, .dfb _ => True
  | _, _ => False

/-- Blocks of cells keep their size. -/
def SameRoom (w w' : World) (b : Nat) : Prop := ∀ n, Room w b n → Room w' b n

/-- The outside is as it was. -/
def Calm (w w' : World) : Prop := w'.os = w.os ∧ w'.output = w.output

/-- The same memory. -/
structure Alike (w w' : World) : Prop where
  heap : w'.heap = w.heap
  calm : Calm w w'

theorem Alike.rfl' {w w' : World} (h : w'.heap = w.heap := by rfl) (h1 : w'.os = w.os := by rfl) (h2 : w'.output = w.output := by rfl) : Alike w w' := ⟨h, h1, h2⟩

structure Ext (ρ : Pl) (S : St) (w : World) (ρ' : Pl) (S' : St) (w' : World) : Prop where
  size : w.heap.size ≤ w'.heap.size
  next : S.next ≤ S'.next
  born : ∀ id, (ρ id).isSome = true → (ρ' id).isSome = true
  out : ∀ b, b < w.heap.size → ¬ Own ρ S b → ¬ Own ρ' S' b ∧ w'.heap[b]? = w.heap[b]?
  ob : ∀ id o', (ρ id).isSome = true → S'.get id = some o' → ∃ o, S.get id = some o ∧ o.kin o' ∧ o.ver ≤ o'.ver ∧
    (o.ver = o'.ver → ρ'.at id = ρ.at id ∧ SameRoom w w' (ρ.at id).1)
  flr : S'.floor = S.floor
  low : ∀ id, id < S.floor → S'.get id = S.get id ∧ ρ' id = ρ id ∧ ∀ o, S.get id = some o → w'.heap[(ρ.at id).1]? = w.heap[(ρ.at id).1]?
  calm : Calm w w'

theorem AObj.kin_refl (o : AObj) : o.kin o := by cases o <;> simp [AObj.kin]

theorem AObj.kin_trans {a b c : AObj} (h : a.kin b) (h' : b.kin c) : a.kin c := by
  cases a <;> cases b <;> simp [AObj.kin] at h <;> cases c <;> simp_all [AObj.kin]

theorem Ext.refl (ρ : Pl) (S : St) (w : World) : Ext ρ S w ρ S w :=
  ⟨Nat.le_refl _, Nat.le_refl _, fun _ h => h, fun _ _ h => ⟨h, rfl⟩, fun _ o' _ h => ⟨o', h, o'.kin_refl, Nat.le_refl _, fun _ => ⟨rfl, fun _ h => h⟩⟩, rfl, fun _ _ => ⟨rfl, rfl, fun _ _ => rfl⟩, rfl, rfl⟩

theorem Ext.trans {ρ ρ' ρ'' : Pl} {S S' S'' : St} {w w' w'' : World} (h : Ext ρ S w ρ' S' w') (h' : Ext ρ' S' w' ρ'' S'' w'') : Ext ρ S w ρ'' S'' w'' where
  size := Nat.le_trans h.size h'.size
  next := Nat.le_trans h.next h'.next
  born id hb := h'.born id (h.born id hb)
  out b hb hn := by
    obtain ⟨h1, h2⟩ := h.out b hb hn
    obtain ⟨h3, h4⟩ := h'.out b (Nat.lt_of_lt_of_le hb h.size) h1
    exact ⟨h3, h4.trans h2⟩
  ob id o'' hid ho := by
    obtain ⟨o', ho', hk', hv', he'⟩ := h'.ob id o'' (h.born id hid) ho
    obtain ⟨o, ho1, hk, hv, he⟩ := h.ob id o' hid ho'
    refine ⟨o, ho1, AObj.kin_trans hk hk', Nat.le_trans hv hv', fun e => ?_⟩
    have e1 : o.ver = o'.ver := Nat.le_antisymm hv (by omega)
    have e2 : o'.ver = o''.ver := by omega
    obtain ⟨a1, b1⟩ := he e1
    obtain ⟨a2, b2⟩ := he' e2
    exact ⟨a2.trans a1, fun n hn => by have := b1 n hn; rw [← a1] at this ⊢; exact b2 n this⟩
  flr := h'.flr.trans h.flr
  low id hid := by
    obtain ⟨h1, h2, h3⟩ := h.low id hid
    obtain ⟨h4, h5, h6⟩ := h'.low id (by rw [h.flr]; exact hid)
    refine ⟨h4.trans h1, h5.trans h2, fun o ho => ?_⟩
    have := h6 o (h1.trans ho)
    have e : ρ'.at id = ρ.at id := by unfold Pl.at; rw [h2]
    rw [e] at this
    exact this.trans (h3 o ho)
  calm := ⟨h'.calm.1.trans h.calm.1, h'.calm.2.trans h.calm.2⟩

theorem Ext.ro {F : Fo} {ρ ρ' : Pl} {S S' : St} {w w' : World} (h : Ext ρ S w ρ' S' w') (b : Nat) (hb : Ro F ρ S w b) :
    Ro F ρ' S' w' b ∧ w'.heap[b]? = w.heap[b]? := by
  obtain ⟨h1, h2, h3⟩ := hb
  obtain ⟨h4, h5⟩ := h.out b h1 h2
  exact ⟨⟨Nat.lt_of_lt_of_le h1 h.size, h4, h3⟩, h5⟩

theorem Ext.rowOf {ρ ρ' : Pl} {S S' : St} {w w' : World} (h : Ext ρ S w ρ' S' w') {id sz ver' : Nat} (hid : (ρ id).isSome = true) (hr : rowOf S' id sz ver') :
    ∃ ver, rowOf S id sz ver ∧ ver ≤ ver' ∧ (ver = ver' → ρ'.at id = ρ.at id ∧ SameRoom w w' (ρ.at id).1) := by
  rcases hr with ⟨t, cs, ho⟩ | ⟨els, ho⟩
  · obtain ⟨o, h1, h2, h3, h4⟩ := h.ob id _ hid ho
    cases o with
    | row t0 s0 v0 c0 => simp only [AObj.kin] at h2; subst h2; exact ⟨v0, .inl ⟨t0, c0, h1⟩, h3, h4⟩
    | _ => simp [AObj.kin] at h2
  · obtain ⟨o, h1, h2, h3, h4⟩ := h.ob id _ hid ho
    cases o with
    | row t0 s0 v0 c0 => simp only [AObj.kin] at h2; subst h2; exact ⟨v0, .inl ⟨t0, c0, h1⟩, h3, h4⟩
    | fro s0 v0 e0 => simp only [AObj.kin] at h2; obtain ⟨rfl, _⟩ := h2; exact ⟨v0, .inr ⟨e0, h1⟩, h3, h4⟩
    | _ => simp [AObj.kin] at h2

theorem AObj.kin_tag {a b : AObj} (h : a.kin b) : a.tag = b.tag := by cases a <;> cases b <;> simp_all [AObj.kin, AObj.tag]

theorem Ext.tagged {ρ ρ' : Pl} {S S' : St} {w w' : World} (h : Ext ρ S w ρ' S' w') {id : Nat} {o' : AObj} (hid : (ρ id).isSome = true) (ho : S'.get id = some o') (ht : o'.tag ≠ 0) :
    ∃ o, S.get id = some o ∧ o.tag = o'.tag ∧ ρ'.at id = ρ.at id := by
  obtain ⟨o, h1, h2, h3, h4⟩ := h.ob id o' hid ho
  have e := AObj.kin_tag h2
  exact ⟨o, h1, e, (h4 (by rw [AObj.ver_of_tag ht, AObj.ver_of_tag (by omega)])).1⟩

section
variable {F : Fo} {ρ ρ' : Pl} {S S' : St} {w w' : World} {P : Program}

theorem VD.ext (h : Ext ρ S w ρ' S' w') {d : Dat} {v : Value} (hd : VD w (Ro F ρ S w) d v) : VD w' (Ro F ρ' S' w') d v := hd.mono fun b hb => h.ro b hb

theorem C0.ext (h : Ext ρ S w ρ' S' w') {c : Cell0} {v : Value} (hc : C0 F ρ S w c v) : C0 F ρ' S' w' c v := by
  cases c with
  | d x => exact VD.ext h hc
  | ptr id ver off =>
    obtain ⟨hb, a, e, hp⟩ := hc
    refine ⟨h.born _ hb, a, e, fun sz ver' hr => ?_⟩
    obtain ⟨v0, h1, h2, h3⟩ := h.rowOf hb hr
    obtain ⟨h4, h5⟩ := hp sz v0 h1
    refine ⟨Nat.le_trans h4 h2, fun e => ?_⟩
    have e1 : ver = v0 := by omega
    rw [(h3 (by omega)).1]
    exact h5 e1
  | ro cs =>
    obtain ⟨b, off, vs, h1, h2, h3, h4⟩ := hc
    exact ⟨b, off, vs, h1, h2, fun hne => ⟨(h.ro b (h3 hne).1).1, (h3 hne).2.congr (h.ro b (h3 hne).1).2⟩, h4.mono fun _ _ hh => VD.ext h hh⟩
  | sl id ver off len cl =>
    obtain ⟨hb, a, cap, g1, g2, g3, hp⟩ := hc
    refine ⟨h.born _ hb, a, cap, g1, g2, g3, fun sz ver' hr => ?_⟩
    obtain ⟨v0, h1, h2, h3⟩ := h.rowOf hb hr
    obtain ⟨h4, h5⟩ := hp sz v0 h1
    refine ⟨Nat.le_trans h4 h2, fun e hp => ?_⟩
    have e1 : ver = v0 := by omega
    obtain ⟨e2, e3⟩ := h3 (by omega)
    rw [e2]
    exact ⟨(h5 e1 hp).1, e3 _ (h5 e1 hp).2⟩
  | mp id =>
    obtain ⟨hb, r, e, hp⟩ := hc
    exact ⟨h.born _ hb, r, e, fun o' ho' ht => by
      obtain ⟨o, ho, ht', e⟩ := h.tagged hb ho' (by omega)
      rw [e]; exact hp o ho (by omega)⟩
  | it id =>
    obtain ⟨hb, r, e, hp⟩ := hc
    exact ⟨h.born _ hb, r, e, fun o' ho' ht => by
      obtain ⟨o, ho, ht', e⟩ := h.tagged hb ho' (by omega)
      rw [e]; exact hp o ho (by omega)⟩

theorem V0.ext (h : Ext ρ S w ρ' S' w') {x : Vl0} {v : Value} (hc : V0 F ρ S w x v) : V0 F ρ' S' w' x v := by
  unfold V0 at *
  split
  · rename_i c h1 h2; simp only [h1, h2] at hc; exact hc.ext h
  · rename_i hne
    split at hc
    · rename_i c h1 h2; exact absurd h2 (hne c h1)
    · obtain ⟨a, h1, h2⟩ := hc
      exact ⟨a, h1, h2.mono fun _ _ hh => hh.ext h⟩

theorem CR.ext (h : Ext ρ S w ρ' S' w') {c : Cell} {v : Value} (hc : CR F ρ S w P c v) : CR F ρ' S' w' P c v := by
  cases c with
  | s c => exact C0.ext h hc
  | fn f g a b =>
    obtain ⟨x, y, h1, h2, h3, h4⟩ := hc
    exact ⟨x, y, h1, h2.mono fun _ _ hh => hh.ext h, h3.mono fun _ _ hh => hh.ext h, h4⟩
  | yld id =>
    obtain ⟨hb, r, e, hp⟩ := hc
    exact ⟨h.born _ hb, r, e, fun o' ho' ht => by
      obtain ⟨o, ho, ht', e⟩ := h.tagged hb ho' (by omega)
      rw [e]; exact hp o ho (by omega)⟩
  | ifc t a cs =>
    obtain ⟨u, h1, h2⟩ := hc
    exact ⟨u, h1, h2.ext h⟩

theorem VlR.ext (h : Ext ρ S w ρ' S' w') {x : Vl} {v : Value} (hc : VlR F ρ S w P x v) : VlR F ρ' S' w' P x v := by
  cases x with
  | one c => exact CR.ext h hc
  | agg cs => obtain ⟨a, h1, h2⟩ := hc; exact ⟨a, h1, h2.mono fun _ _ hh => hh.ext h⟩

theorem AR.ext (h : Ext ρ S w ρ' S' w') {x : AVal} {v : Value} (hc : AR F ρ S w P x v) : AR F ρ' S' w' P x v := by
  cases x with
  | v x => exact VlR.ext h hc
  | tup l => obtain ⟨a, h1, h2⟩ := hc; exact ⟨a, h1, h2.mono fun _ _ hh => hh.ext h⟩
  | bad => trivial

theorem SlR.ext (h : Ext ρ S w ρ' S' w') {slots : PM AVal} {tmps : Array Value} (hc : SlR F ρ S w P slots tmps) : SlR F ρ' S' w' P slots tmps :=
  fun t => (hc t).ext h

theorem EntR.ext (h : Ext ρ S w ρ' S' w') {k : KeyK} {e : AEnt} {m : MapEntry} (hc : EntR F ρ S w P k e m) : EntR F ρ' S' w' P k e m := by
  obtain ⟨h1, h2, h5⟩ := hc
  exact ⟨h1, h2, h5.ext h⟩

/-- An object that stays as it is, its block too, stands for it still. -/
theorem ObR.stay (h : Ext ρ S w ρ' S' w') {id : Nat} {o : AObj} (hid : S.get id = some o) (hid' : S'.get id = some o) (hn : (ρ id).isSome = true)
    (hb : o.own = true → w'.heap[(ρ.at id).1]? = w.heap[(ρ.at id).1]?)
    (ho : ObR F ρ S w P id o) : ObR F ρ' S' w' P id o := by
  obtain ⟨o1, e1, _, _, e2⟩ := h.ob id o hn hid'
  rw [hid] at e1; cases e1
  have eρ : ρ'.at id = ρ.at id := (e2 rfl).1
  cases o with
  | row t sz ver cs =>
    obtain ⟨hz, c, e, lo, hi, pre, vs, post, h1, h2, h3, h4, h5⟩ := ho
    exact ⟨hz, c, e, lo, hi, pre, vs, post, by rw [eρ, hb rfl]; exact h1, h2, h3, by rw [eρ]; exact h4, h5.mono fun _ _ hh => hh.ext h⟩
  | fro sz ver els =>
    obtain ⟨hz, h1, h2, vs, h3, h4⟩ := ho
    obtain ⟨h5, h6⟩ := h.ro _ h2
    exact ⟨hz, h1, by rw [eρ]; exact h5, vs, by rw [eρ]; exact h3.congr h6, h4.mono fun _ _ hh => VD.ext h hh⟩
  | map k es clock =>
    obtain ⟨ms, h1, h2⟩ := ho
    exact ⟨ms, by rw [eρ, hb rfl]; exact h1, h2.mono fun _ _ hh => hh.ext h⟩
  | mit m since seen stepped =>
    obtain ⟨sn, mb, h1, h2, h3, h4⟩ := ho
    refine ⟨sn, mb, h1, by rw [eρ, hb rfl]; exact h2, h3, fun i hi => ⟨h.born _ (h4 i hi).1, fun o' ho' ht => ?_⟩⟩
    obtain ⟨o, h5, h6, h7⟩ := h.tagged (h4 i hi).1 ho' (by omega)
    rw [h7]; exact (h4 i hi).2 o h5 (by omega)
  | sit s pos =>
    obtain ⟨b, h1, h2⟩ := ho
    exact ⟨b, h1, by rw [eρ, hb rfl]; exact h2⟩
  | lp st slots params assign body pending =>
    obtain ⟨fn, f, tmps, ps, ca, cb, pd, dfs, h1, h2, h3, h4, h5, h6, h7, h8⟩ := ho
    exact ⟨fn, f, tmps, ps, ca, cb, pd, dfs, by rw [eρ, hb rfl]; exact h1, h2, h3, h4, h5, h6, h7.ext h, h8⟩
  | dfb sh => show w'.heap[(ρ'.at id).1]? = _; rw [eρ, hb rfl]; exact ho

end
end Go.Rf
