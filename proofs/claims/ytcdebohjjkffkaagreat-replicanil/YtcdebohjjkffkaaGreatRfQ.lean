/- Operations that change nothing do in the model what the machine says. -/
import Derived.Test.YtcdebohjjkffkaaGreatRfS
import Derived.Laws.Cells
import Derived.Lib.Strings
namespace Go.Rf
set_option linter.unusedVariables false
set_option linter.unusedSimpArgs false
open Go

section
variable {F : Fo} {ρ : Pl} {S : St} {w : World} {P : Program}

/-! ## Constants and operands -/

theorem cellOf_ok {v : Value} {c : Cell} (h : cellOf v = some c) : CR F ρ S w P c v := by
  unfold cellOf at h
  split at h <;> first
    | (cases h; exact .bool _)
    | (cases h; exact .int _ _)
    | (cases h; exact .flt _ _)
    | (cases h; exact .str _)
    | (cases h; exact .nilp)
    | (cases h; exact .nilm)
    | (cases h; exact .nilf)
    | (cases h; exact .nili)
    | (cases h; exact VD.sl [] true none 0 0 0 0 [] (Nat.le_refl _) (fun _ => rfl) (fun e he => by cases he) rfl (fun h => absurd rfl h) (fun k x v h => by simp at h))
    | cases h

theorem vlOf_ok {v : Value} {x : Vl} (h : vlOf v = some x) : VlR F ρ S w P x v := by
  unfold vlOf at h
  split at h
  · rename_i cs
    cases hm : mapO cellOf cs.toList with
    | none => simp [hm] at h
    | some l =>
      simp only [hm, Option.map_some, Option.some.injEq] at h
      subst h
      refine ⟨cs, rfl, ?_⟩
      have := mapO_eq _ _ hm
      refine All2.of_get this.length.symm fun k a b ha hb => cellOf_ok (this.get k b a hb ha)
  · cases hc : cellOf v with
    | none => simp [hc] at h
    | some c =>
      simp only [hc, Option.map_some, Option.some.injEq] at h
      subst h
      exact cellOf_ok hc

theorem rd_c (slots : PM AVal) (v : Vl) : rdS slots (.c v) = .v v := rfl

theorem opd_ok {slots : PM AVal} {a : Act} (hs : SlR F ρ S w P slots a.tmps) {x : Operand} {y : AOpd} (h : opd x = some y) :
    AR F ρ S w P (rdS slots y) (a.eval x) := by
  cases x with
  | tmp t => simp only [opd, Option.some.injEq] at h; subst h; exact hs t
  | const v =>
    simp only [opd] at h
    cases hv : vlOf v with
    | none => simp [hv] at h
    | some x => simp only [hv, Option.map_some, Option.some.injEq] at h; subst h; exact vlOf_ok hv
  | global g => simp [opd] at h
  | func f =>
    simp only [opd, Option.some.injEq] at h; subst h
    exact ⟨#[], #[], rfl, trivial, trivial, rfl, .inl ⟨f, rfl⟩⟩

/-! ## Looking into values -/

theorem one_inv {x : AVal} {c : Cell} (h : x.one? = some c) : x = .v (.one c) := by
  unfold AVal.one? at h; split at h <;> simp_all

theorem cell0_inv {x : AVal} {c : Cell0} (h : x.cell0? = some c) : x = .v (.one (.s c)) := by
  unfold AVal.cell0? at h; split at h <;> simp_all

theorem dat_inv {x : AVal} {d : Dat} (h : x.dat? = some d) : x = .v (.one (.s (.d d))) := by
  unfold AVal.dat? at h; split at h <;> simp_all

theorem int_inv {x : AVal} {n : Int} (h : x.int? = some n) : ∃ k, x = .v (.one (.s (.d (.int k n)))) := by
  unfold AVal.int? at h
  split at h
  · rename_i k m hd; cases h; exact ⟨k, dat_inv hd⟩
  · cases h

theorem bool_inv {x : AVal} {b : Bool} (h : x.bool? = some b) : x = .v (.one (.s (.d (.bool b)))) := by
  unfold AVal.bool? at h
  split at h
  · rename_i m hd; cases h; exact dat_inv hd
  · cases h

theorem AR.cell0 {x : AVal} {v : Value} {c : Cell0} (h : AR F ρ S w P x v) (hc : x.cell0? = some c) : C0 F ρ S w c v := by
  rw [cell0_inv hc] at h; exact h
theorem AR.one {x : AVal} {v : Value} {c : Cell} (h : AR F ρ S w P x v) (hc : x.one? = some c) : CR F ρ S w P c v := by
  rw [one_inv hc] at h; exact h
theorem AR.dat {x : AVal} {v : Value} {d : Dat} (h : AR F ρ S w P x v) (hc : x.dat? = some d) : VD w (Ro F ρ S w) d v := by
  rw [dat_inv hc] at h; exact h
theorem AR.int {x : AVal} {v : Value} {n : Int} (h : AR F ρ S w P x v) (hc : x.int? = some n) : ∃ k, v = .int k n := by
  obtain ⟨k, e⟩ := int_inv hc
  rw [e] at h
  cases (show VD w (Ro F ρ S w) (.int k n) v from h) with
  | int => exact ⟨k, rfl⟩
theorem AR.bool {x : AVal} {v : Value} {b : Bool} (h : AR F ρ S w P x v) (hc : x.bool? = some b) : v = .bool b := by
  rw [bool_inv hc] at h
  cases (show VD w (Ro F ρ S w) (.bool b) v from h) with
  | bool => rfl

theorem AR.dv {d : Dat} {v : Value} (h : VD w (Ro F ρ S w) d v) : AR F ρ S w P (dv d) v := h
theorem AR.cv {c : Cell0} {v : Value} (h : C0 F ρ S w c v) : AR F ρ S w P (cv c) v := h

theorem VD.int_inv {ro : Nat → Prop} {k : IntKind} {n : Int} {v : Value} (h : VD w ro (.int k n) v) : v = .int k n := by cases h; rfl
theorem VD.bool_inv {ro : Nat → Prop} {b : Bool} {v : Value} (h : VD w ro (.bool b) v) : v = .bool b := by cases h; rfl
theorem VD.str_inv {ro : Nat → Prop} {s : List Nat} {v : Value} (h : VD w ro (.str s) v) : ∃ b, v = .string b ∧ bytesOf b = s := by cases h; exact ⟨_, rfl, rfl⟩
theorem VD.flt_inv {ro : Nat → Prop} {k : FloatKind} {n : Nat} {v : Value} (h : VD w ro (.flt k n) v) : v = .float k n := by cases h; rfl

/-! ## The model's little words -/

theorem run_und {t : TypeId} {d : TypeDesc} (h : P.underlying t = some d) (w : World) : (underlying t).run P w = .ok d w := run_underlying h w

theorem run_info {t : TypeId} {i : TypeInfo} (h : P.info? t = some i) (w : World) : (typeInfo t).run P w = .ok i w := by
  simp [typeInfo, h]

theorem run_size {t : TypeId} {n : Nat} (h : szOf P t = some n) (w : World) : (sizeOf t).run P w = .ok n w := by
  unfold szOf at h
  cases hi : P.info? t with
  | none => simp [hi] at h
  | some i => simp only [hi, Option.map_some, Option.some.injEq] at h; subst h; simp [sizeOf, run_info hi]

theorem run_agg {t : TypeId} {b : Bool} (h : isAggT P t = some b) (w : World) : (isAgg t).run P w = .ok b w := by
  unfold isAggT at h
  cases hu : P.underlying t with
  | none => simp [hu] at h
  | some d =>
    simp only [isAgg, Sem.run_bind, run_und hu, Result.andThen_ok]
    cases d <;> simp [hu] at h <;> subst h <;> rfl

theorem run_zero {t : TypeId} {z : Vl} (h : zeroOf P t = some z) (w : World) : ∃ v, (zeroValue t).run P w = .ok v w ∧ vlOf v = some z := by
  unfold zeroOf at h
  cases hi : P.info? t with
  | none => simp [hi] at h
  | some i =>
    simp only [hi] at h
    cases hz : i.zero with
    | none => simp [hz] at h
    | some v => simp only [hz] at h; exact ⟨v, by simp [zeroValue, run_info hi, hz], h⟩

/-! ## Reading cells -/

theorem Lies.loadCells {b off : Nat} {vs : List Value} (h : Lies w b off vs) (n : Nat) (hn : n = vs.length) : (loadCells ⟨b, off, none⟩ n).run P w = .ok vs.toArray w := by
  subst hn
  refine run_loadCells_list w _ vs fun j v hj => ?_
  have := h.cell hj
  unfold Addr.add
  split
  · rename_i h0; subst h0; exact this
  · exact this

theorem run_load_at {b off : Nat} {vs : List Value} (h : Lies w b off vs) {v : Value} (hv : vs[0]? = some v) : (load ⟨b, off, none⟩).run P w = .ok v w := by
  have := h.cell hv
  simp only [Nat.add_zero] at this
  simp [run_load, this]

/-- Cells make a value: so many, as a struct or alone. -/
theorem mkVl_ok {agg : Bool} {l : List Cell} {x : Vl} {vs : List Value} (h : mkVl agg l = some x) (hl : All2 (CR F ρ S w P) l vs) :
    (agg = true ∧ VlR F ρ S w P x (.agg vs.toArray)) ∨ (agg = false ∧ ∃ v, vs = [v] ∧ VlR F ρ S w P x v) := by
  cases agg with
  | true => simp only [mkVl, Option.some.injEq] at h; subst h; exact .inl ⟨rfl, _, rfl, hl⟩
  | false =>
    right
    cases l with
    | nil => simp [mkVl] at h
    | cons c r =>
      cases r with
      | nil => simp only [mkVl, Option.some.injEq] at h; subst h; obtain ⟨v, rfl, hv⟩ := hl.one_inv; exact ⟨rfl, v, rfl, hv⟩
      | cons d r => simp [mkVl] at h

theorem run_loadVar_lies {t : TypeId} {agg : Bool} {n b off : Nat} {vs : List Value} {l : List Cell} {x : Vl} (ha : isAggT P t = some agg) (hn : szOf P t = some n)
    (h : Lies w b off vs) (hlen : vs.length = n) (hx : mkVl agg l = some x) (hl : All2 (CR F ρ S w P) l vs) :
    ∃ v, (loadVar t ⟨b, off, none⟩).run P w = .ok v w ∧ VlR F ρ S w P x v := by
  simp only [loadVar, Sem.run_bind, run_agg ha, Result.andThen_ok]
  rcases mkVl_ok hx hl with ⟨rfl, hv⟩ | ⟨rfl, v, rfl, hv⟩
  · refine ⟨_, ?_, hv⟩
    simp [Sem.run_bind, run_size hn, h.loadCells n hlen.symm]
  · exact ⟨v, by simp only [Bool.false_eq_true, if_false]; exact run_load_at h rfl, hv⟩

theorem dats_all2 {ds : List Dat} {vs : List Value} (h : All2 (VD w (Ro F ρ S w)) ds vs) : All2 (CR F ρ S w P) (ds.map dc) vs := All2.map_left.2 h

theorem row_lies (hR : R F ρ S w P) {id sz ver : Nat} {t : TypeId} {cs : List Cell} (h : S.get id = some (.row t sz ver cs)) :
    0 < sz ∧ ∃ vs, Lies w (ρ.at id).1 (ρ.at id).2 vs ∧ All2 (CR F ρ S w P) cs vs := by
  obtain ⟨hz, c, e, lo, hi, pre, vs, post, h1, h2, h3, h4, h5⟩ := (hR.ob id _ h).2
  exact ⟨hz, vs, ⟨c, e, (lo, hi), pre, post, h1, h3, h4⟩, h5⟩

theorem evLoad_ok (hR : R F ρ S w P) {agg : Bool} {n : Nat} {x y : AVal} {v : Value} {t : TypeId} (ha : isAggT P t = some agg) (hn : szOf P t = some n) (h0 : n ≠ 0)
    (h : evLoad S agg n x = some y) (hx : AR F ρ S w P x v) : ∃ u, (Instr.loadAt t v).run P w = .ok u w ∧ AR F ρ S w P y u := by
  unfold evLoad at h
  split at h
  · rename_i id ver off hc
    split at h
    · rename_i t' sz' ver' cs hg
      split at h
      · rename_i hv
        have hv := beq_iff.1 hv; subst hv
        split at h
        · rename_i l hl
          obtain ⟨rfl, hle⟩ := takeN_eq _ _ _ hl
          simp only [List.length_drop] at hle
          cases hm : mkVl agg (List.take n (List.drop off cs)) with
          | none => rw [hm] at h; cases h
          | some z =>
            rw [hm] at h; cases h
            obtain ⟨hb, ad, rfl, hp⟩ := hx.cell0 hc
            obtain ⟨_, hp⟩ := hp sz' ver (.inl ⟨t', cs, hg⟩)
            have hp := hp rfl
            obtain ⟨_, vs, h1, h2⟩ := row_lies hR hg
            have hlen := h2.length
            obtain ⟨u, hu1, hu2⟩ := run_loadVar_lies ha hn ((h1.drop off (by omega)).take n) (by simp; omega) hm ((h2.drop off).take n)
            refine ⟨u, ?_, hu2⟩
            subst hp
            simp only [Instr.loadAt, Instr.sureAddr, Sem.run_bind, Sem.run_pure, Result.andThen_ok]
            exact hu1
        · cases h
      · cases h
    · cases h
  · rename_i cs hc
    split at h
    · rename_i l hl
      obtain ⟨rfl, hle⟩ := takeN_eq _ _ _ hl
      cases hm : mkVl agg ((List.take n cs).map dc) with
      | none => rw [hm] at h; cases h
      | some z =>
        rw [hm] at h; cases h
        obtain ⟨b, off, vs, rfl, h2, h3, h4⟩ := hx.cell0 hc
        have hne : vs ≠ [] := by intro e; subst e; simp at h2; omega
        obtain ⟨u, hu1, hu2⟩ := run_loadVar_lies (F := F) (ρ := ρ) (S := S) ha hn ((h3 hne).2.take n) (by simp; omega) hm (dats_all2 (h4.take n))
        refine ⟨u, ?_, hu2⟩
        simp only [Instr.loadAt, Instr.sureAddr, Sem.run_bind, Sem.run_pure, Result.andThen_ok]
        exact hu1
    · cases h
  · cases h

/-! ## Numbers -/

theorem bits_eq (f : Nat → Nat → Nat) (g : (w : Nat) → BitVec w → BitVec w → BitVec w) (hf : ∀ w (a b : BitVec w), (g w a b).toNat = f a.toNat b.toNat) (k : IntKind) (a b : Int) :
    bits f g k a b = k.wrap (g k.bits (BitVec.ofInt k.bits a) (BitVec.ofInt k.bits b)).toNat := by
  have key : ∀ (n m k : Nat), (n : Int) = ((m % 2 ^ k : Nat) : Int) → n = m % 2 ^ k := fun n m k h => by omega
  unfold bits
  split
  · rename_i a b
    have e : ∀ x : Nat, (BitVec.ofInt IntKind.u64.bits (Int.ofNat x)).toNat = x % 18446744073709551616 := fun x => by
      show (BitVec.ofInt 64 (Int.ofNat x)).toNat = _
      rw [BitVec.toNat_ofInt]; simp; omega
    have hlt := (g IntKind.u64.bits (BitVec.ofInt IntKind.u64.bits (Int.ofNat a)) (BitVec.ofInt IntKind.u64.bits (Int.ofNat b))).isLt
    rw [hf, e, e] at hlt ⊢
    show _ = IntKind.u64.wrap _
    rw [← iWrap_eq]; rfl
  · rename_i a b
    have e : ∀ x : Nat, (BitVec.ofInt IntKind.u32.bits (Int.ofNat x)).toNat = x % 4294967296 := fun x => by
      show (BitVec.ofInt 32 (Int.ofNat x)).toNat = _
      rw [BitVec.toNat_ofInt]; simp; omega
    rw [hf, e, e]
    show _ = IntKind.u32.wrap _
    rw [← iWrap_eq]; rfl
  · rename_i a b
    have e : ∀ x : Nat, (BitVec.ofInt IntKind.u8.bits (Int.ofNat x)).toNat = x % 256 := fun x => by
      show (BitVec.ofInt 8 (Int.ofNat x)).toNat = _
      rw [BitVec.toNat_ofInt]; simp; omega
    rw [hf, e, e]
    show _ = IntKind.u8.wrap _
    rw [← iWrap_eq]; rfl
  · rfl

theorem less_bytes : ∀ (a b : List UInt8), less (a.map UInt8.toNat) (b.map UInt8.toNat) = Op.bytesLess a b
  | _, [] => by simp [less, Op.bytesLess]
  | [], _ :: _ => by simp [less, Op.bytesLess]
  | a :: x, b :: y => by
    simp only [List.map_cons, less, Op.bytesLess, less_bytes x y]
    congr 1
    · rw [Bool.eq_iff_iff, blt_iff, decide_eq_true_eq]; exact UInt8.lt_iff_toNat_lt.symm
    · congr 1
      rw [Bool.eq_iff_iff, beq_iff, beq_iff_eq]; exact UInt8.toNat_inj

theorem toNat_inj_list : ∀ (a b : List UInt8), (a.map UInt8.toNat == b.map UInt8.toNat) = (a == b)
  | [], [] => rfl
  | [], _ :: _ => rfl
  | _ :: _, [] => rfl
  | a :: x, b :: y => by
    have h : (a.toNat == b.toNat) = (a == b) := by rw [Bool.eq_iff_iff, beq_iff_eq, beq_iff_eq]; exact UInt8.toNat_inj
    show (a.toNat == b.toNat && (x.map UInt8.toNat == y.map UInt8.toNat)) = (a == b && x == y)
    rw [toNat_inj_list x y, h]


theorem binI_ok {op : BinOp} {k : IntKind} {a b : Int} {d : Dat} (h : binI op k a b = some d) : ∃ v, (match op with
      | .add | .sub | .mul => Op.intArith op k a b
      | .quo | .rem => Op.intDiv op k a b
      | .and | .or | .xor | .andNot => Op.intBits op k a b
      | _ => Op.intCmp op a b).run P w = .ok v w ∧ VD w (Ro F ρ S w) d v := by
  cases op <;> simp only [binI] at h
  case add => cases h; exact ⟨_, rfl, by rw [iWrap_eq, iAdd_eq]; exact .int _ _⟩
  case sub => cases h; exact ⟨_, rfl, by rw [iWrap_eq]; exact .int _ _⟩
  case mul => cases h; exact ⟨_, rfl, by rw [iWrap_eq]; exact .int _ _⟩
  case quo =>
    split at h
    · cases h
    · rename_i hb
      cases h
      have hb : ¬ b = 0 := by intro e; subst e; simp [iEq_eq] at hb
      exact ⟨_, by simp [Op.intDiv, hb]; rfl, by rw [iWrap_eq]; exact .int _ _⟩
  case rem =>
    split at h
    · cases h
    · rename_i hb
      cases h
      have hb : ¬ b = 0 := by intro e; subst e; simp [iEq_eq] at hb
      exact ⟨_, by simp [Op.intDiv, hb], .int _ _⟩
  case and => cases h; exact ⟨_, rfl, by rw [bits_eq _ _ (fun w a b => by simp)]; exact .int _ _⟩
  case or => cases h; exact ⟨_, rfl, by rw [bits_eq _ _ (fun w a b => by simp)]; exact .int _ _⟩
  case xor => cases h; exact ⟨_, rfl, by rw [bits_eq _ _ (fun w a b => by simp)]; exact .int _ _⟩
  case andNot => cases h; exact ⟨_, rfl, .int _ _⟩
  case eql => cases h; exact ⟨_, rfl, by rw [iEq_eq]; exact .bool _⟩
  case neq => cases h; exact ⟨_, rfl, by rw [iEq_eq]; exact .bool _⟩
  case lss => cases h; exact ⟨_, rfl, by rw [iLt_eq]; exact .bool _⟩
  case leq =>
    cases h
    refine ⟨_, rfl, ?_⟩
    have : (!iLt b a) = decide (a ≤ b) := by rw [iLt_eq, Bool.eq_iff_iff]; simp
    rw [this]; exact .bool _
  case gtr => cases h; exact ⟨_, rfl, by rw [iLt_eq]; exact .bool _⟩
  case geq =>
    cases h
    refine ⟨_, rfl, ?_⟩
    have : (!iLt a b) = decide (a ≥ b) := by rw [iLt_eq, Bool.eq_iff_iff]; simp
    rw [this]; exact .bool _
  all_goals cases h

theorem shiftI_ok {op : BinOp} {k k' : IntKind} {a b : Int} {d : Dat} (h : shiftI op k a b = some d) : ∃ v, (Op.shift op k a k' b).run P w = .ok v w ∧ VD w (Ro F ρ S w) d v := by
  unfold shiftI at h
  split at h
  · cases h
  · rename_i hb
    rw [iNeg_eq] at hb
    have hb : ¬ b < 0 := by simpa using hb
    cases op <;> simp only at h <;> try cases h
    · exact ⟨.int k (k.wrap (a * 2 ^ (min b.toNat k.bits))), by simp only [Op.shift, hb, if_false]; rfl, by rw [iWrap_eq]; exact .int _ _⟩
    · exact ⟨.int k (a.fdiv (2 ^ (min b.toNat k.bits))), by simp only [Op.shift, hb, if_false]; rfl, .int _ _⟩

theorem bytesOf_append (a b : ByteArray) : bytesOf (a ++ b) = bytesOf a ++ bytesOf b := by
  unfold bytesOf
  rw [ByteArray.data_append, Array.toList_append, List.map_append]

theorem bytesOf_length (a : ByteArray) : (bytesOf a).length = a.size := by unfold bytesOf; rw [List.length_map, Array.length_toList]; rfl

theorem toList_data (a : ByteArray) : a.toList = a.data.toList := Lib.toList_data a

theorem strEq_bytes (a b : ByteArray) : strEq (bytesOf a) (bytesOf b) = (a.toList == b.toList) := by
  rw [strEq_eq, toList_data, toList_data]; exact toNat_inj_list _ _

theorem less_bytesOf (a b : ByteArray) : less (bytesOf a) (bytesOf b) = Op.bytesLess a.toList b.toList := by
  rw [toList_data, toList_data]; exact less_bytes _ _

theorem binS_ok {op : BinOp} {a b : ByteArray} {d : Dat} (h : binS op (bytesOf a) (bytesOf b) = some d) : ∃ v, (Op.stringOp op a b).run P w = .ok v w ∧ VD w (Ro F ρ S w) d v := by
  cases op <;> simp only [binS] at h
  case add =>
    split at h
    · rename_i hl
      cases h
      have hl := ble_iff.1 hl
      rw [bytesOf_length, bytesOf_length] at hl
      refine ⟨.string (a ++ b), ?_, by rw [← bytesOf_append]; exact .str _⟩
      have : ¬ (((a.size + b.size : Nat) : Int) > IntKind.i64.max) := by
        show ¬ (((a.size + b.size : Nat) : Int) > 9223372036854775807)
        omega
      simp only [Op.stringOp, this, if_false]; rfl
    · cases h
  case eql => cases h; exact ⟨_, rfl, by rw [strEq_bytes]; exact .bool _⟩
  case neq => cases h; exact ⟨_, rfl, by rw [strEq_bytes]; exact .bool _⟩
  case lss => cases h; exact ⟨_, rfl, by rw [less_bytesOf]; exact .bool _⟩
  case leq => cases h; exact ⟨_, rfl, by rw [less_bytesOf, strEq_bytes]; exact .bool _⟩
  case gtr => cases h; exact ⟨_, rfl, by rw [less_bytesOf, strEq_bytes]; exact .bool _⟩
  case geq => cases h; exact ⟨_, rfl, by rw [less_bytesOf]; exact .bool _⟩
  all_goals cases h

end
end Go.Rf
