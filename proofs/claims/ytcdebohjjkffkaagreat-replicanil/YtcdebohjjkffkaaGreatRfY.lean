/- All quiet operations in one theorem. -/
import Derived.Test.YtcdebohjjkffkaaGreatRfX
namespace Go.Rf
set_option linter.unusedVariables false
set_option linter.unusedSimpArgs false
open Go

section
variable {F : Fo} {ρ : Pl} {S : St} {w : World} {P : Program}

theorem evNilck_ok {x y : AVal} {v : Value} (h : evNilck x = some y) (hx : AR F ρ S w P x v) :
    (∃ q, v = .pointer (some q)) ∧ AR F ρ S w P y v := by
  unfold evNilck at h
  split at h
  · rename_i hc
    cases h
    have := hx.cell0 hc
    have hh := this
    obtain ⟨_, q, e, _⟩ := hh
    exact ⟨⟨q, e⟩, this⟩
  · rename_i c hc
    cases h
    have := hx.cell0 hc
    have hh := this
    obtain ⟨b, o, vs, e, _⟩ := hh
    exact ⟨⟨_, e⟩, this⟩
  · cases h

theorem cells0_ok {cs : List Cell} {l : List Cell0} (h : cells0? cs = some l) : cs = l.map .s := by
  induction cs generalizing l with
  | nil => cases h; rfl
  | cons c cs ih =>
    cases c with
    | s c =>
      simp only [cells0?] at h
      split at h
      · rename_i l' hl
        cases h
        rw [ih hl]; rfl
      · cases h
    | _ => simp [cells0?] at h

theorem vl0_ok {x : AVal} {z : Vl0} {v : Value} (h : vl0? x = some z) (hx : AR F ρ S w P x v) : V0 F ρ S w z v := by
  unfold vl0? at h
  split at h
  · cases h; exact hx
  · rename_i cs
    split at h
    · rename_i l hl
      cases h
      have := cells0_ok hl
      subst this
      obtain ⟨a, e, ha⟩ := hx
      have ha : All2 (C0 F ρ S w) l a.toList := (All2.map_left (f := Cell.s)).1 ha
      exact ⟨a, e, ha⟩
    · cases h
  · cases h

theorem vl0s_ok {slots : PM AVal} {a : Act} (hs : SlR F ρ S w P slots a.tmps) : ∀ (os : List Operand) (ys : List AOpd) (l : List Vl0),
    mapO opd os = some ys → mapO (fun x => vl0? (rdS slots x)) ys = some l → All2 (V0 F ρ S w) l (os.map a.eval)
  | [], ys, l, h, h' => by
    simp only [mapO, Option.some.injEq] at h; subst h
    simp only [mapO, Option.some.injEq] at h'; subst h'
    trivial
  | o :: os, ys, l, h, h' => by
    simp only [mapO] at h
    split at h
    · rename_i y hy
      split at h
      · rename_i ys' hys
        cases h
        simp only [mapO] at h'
        split at h'
        · rename_i z hz
          split at h'
          · rename_i l' hl
            cases h'
            exact ⟨vl0_ok hz (opd_ok hs hy), vl0s_ok hs os ys' l' hys hl⟩
          · cases h'
        · cases h'
      · cases h
    · cases h

theorem evMkif_ok {t : TypeId} {x y : AVal} {v : Value} (h : evMkif t x = some y) (hx : AR F ρ S w P x v) : AR F ρ S w P y (.iface t v) := by
  unfold evMkif at h
  split at h
  · rename_i c
    split at h
    · rename_i l hl
      cases h
      cases c with
      | s c => cases hl; exact ⟨v, rfl, hx⟩
      | _ => simp [cells0?] at hl
    · cases h
  · rename_i cs
    split at h
    · rename_i l hl
      cases h
      have := cells0_ok hl
      subst this
      obtain ⟨a, e, ha⟩ := hx
      have ha : All2 (C0 F ρ S w) l a.toList := (All2.map_left (f := Cell.s)).1 ha
      exact ⟨v, rfl, a, e, ha⟩
    · cases h
  · cases h

theorem V0.mk {agg : Bool} {cs : List Cell0} {z : Vl} {u : Value} (h : V0 F ρ S w ⟨agg, cs⟩ u) (hz : mkVl agg (cs.map .s) = some z) : VlR F ρ S w P z u := by
  cases agg with
  | true =>
    cases hz
    obtain ⟨a, e, ha⟩ := h
    exact ⟨a, e, All2.map_left.2 ha⟩
  | false =>
    match cs, hz with
    | [c], hz => cases hz; exact h

theorem evTas_ok {t st : TypeId} {zero : Vl} {ok : Bool} {x y : AVal} {v : Value} {d : TypeDesc} (ht : P.underlying t = some d) (hd : ∀ m, d ≠ .interface m)
    (hz : zeroOf P t = some zero) (h : evTas t zero ok x = some y) (hx : AR F ρ S w P x v) :
    ∃ u, (Instr.typeAssert v st t ok).run P w = .ok u w ∧ AR F ρ S w P y u := by
  obtain ⟨z, hz1, hz2⟩ := run_zero hz w
  have hzr := vlOf_ok (F := F) (ρ := ρ) (S := S) (w := w) (P := P) hz2
  unfold evTas at h
  split at h
  · rename_i t' agg cs hc
    obtain ⟨u, rfl, hu⟩ := hx.one hc
    split at h
    · rename_i hb
      rw [beq_iff] at hb; subst hb
      cases hm : mkVl agg (cs.map Cell.s) with
      | none => rw [hm] at h; cases h
      | some z' =>
        rw [hm] at h; cases h
        have := V0.mk (P := P) hu hm
        refine ⟨if ok then .tuple #[u, .bool true] else u, ?_, ?_⟩
        · unfold Instr.typeAssert
          cases d <;> first | exact absurd rfl (hd _) | (cases ok <;> simp [run_und ht])
        · cases ok with
          | true => exact ⟨_, rfl, this, VD.bool true, trivial⟩
          | false => exact this
    · rename_i hb
      have hne : t' ≠ t := fun e => by subst e; rw [Nat.beq_refl] at hb; cases hb
      cases ok with
      | false => cases h
      | true =>
        cases h
        refine ⟨.tuple #[z, .bool false], ?_, ⟨_, rfl, hzr, VD.bool false, trivial⟩⟩
        unfold Instr.typeAssert
        cases d <;> first | exact absurd rfl (hd _) | simp [run_und ht, hne, hz1]
  · rename_i hc
    have hn : v = .nilIface := by
      have := hx.one hc
      cases (show VD _ _ _ _ from this); rfl
    subst hn
    cases ok with
    | false => cases h
    | true =>
      cases h
      refine ⟨.tuple #[z, .bool false], ?_, ⟨_, rfl, hzr, VD.bool false, trivial⟩⟩
      unfold Instr.typeAssert
      cases d <;> first | exact absurd rfl (hd _) | simp [run_und ht, hz1]
  · cases h

theorem tupGet_ok : ∀ (l : List Vl) (i : Nat) (x : Vl) (vs : List Value), tupGet l i = some x → All2 (VlR F ρ S w P) l vs → ∃ v, vs[i]? = some v ∧ VlR F ρ S w P x v
  | x :: l, 0, y, vs, h, hl => by
    cases h
    obtain ⟨b, vs', rfl, h1, _⟩ := hl.cons_inv
    exact ⟨b, rfl, h1⟩
  | x :: l, n + 1, y, vs, h, hl => by
    obtain ⟨b, vs', rfl, _, h2⟩ := hl.cons_inv
    obtain ⟨v, h3, h4⟩ := tupGet_ok l n y vs' h h2
    exact ⟨v, by simpa using h3, h4⟩

theorem evExtract_ok {i : Nat} {x y : AVal} {v : Value} (h : evExtract i x = some y) (hx : AR F ρ S w P x v) :
    ∃ u, (Instr.extract v i).run P w = .ok u w ∧ AR F ρ S w P y u := by
  unfold evExtract at h
  split at h
  · rename_i l
    obtain ⟨a, rfl, ha⟩ := hx
    cases hg : tupGet l i with
    | none => rw [hg] at h; cases h
    | some z =>
      rw [hg] at h; cases h
      obtain ⟨u, h1, h2⟩ := tupGet_ok l i z _ hg ha
      refine ⟨u, ?_, h2⟩
      rw [Array.getElem?_toList] at h1
      simp [Instr.extract, h1]
  · cases h

/-! ## The two functions on the bits of numbers -/

theorem row_fbits : Extern.allRows.lookup "math.Float64bits" = some Extern.MathFloatBits.float64bits := by kernel_rfl
theorem row_bitsf : Extern.allRows.lookup "math.Float64frombits" = some Extern.MathFloatBits.float64frombits := by kernel_rfl
theorem gen_fbits : Extern.allGenericRows.lookup "math.Float64bits" = none := by kernel_rfl
theorem gen_bitsf : Extern.allGenericRows.lookup "math.Float64frombits" = none := by kernel_rfl
theorem typ_fbits : Extern.allTypedRows.lookup "math.Float64bits" = none := by kernel_rfl
theorem typ_bitsf : Extern.allTypedRows.lookup "math.Float64frombits" = none := by kernel_rfl
theorem nxt_fbits : Extern.allNextRows.lookup "math.Float64bits" = none := by kernel_rfl
theorem nxt_bitsf : Extern.allNextRows.lookup "math.Float64frombits" = none := by kernel_rfl
theorem nxt_none : Extern.allNextRows.lookup "" = none := by kernel_rfl

theorem callFunc_fbits {f : FuncId} {fn : Func} (hf : P.funcs[f]? = some fn) (hb : fn.body.isNone = true) (hn : fn.name = "math.Float64bits") (ho : fn.origin = "") (n : Nat) :
    (callFunc f #[.float .f64 n]).run P w = .ok (.value (.int .u64 n)) w := by
  have h1 : Extern.findNext fn = none := by simp [Extern.findNext, hn, ho, nxt_fbits, nxt_none]
  have h2 : Extern.find fn = some Extern.MathFloatBits.float64bits := by simp [Extern.find, hn, gen_fbits, typ_fbits, row_fbits]
  have h3 : ¬ fn.name = "runtime.NumGoroutine" := by rw [hn]; decide
  have hb' : fn.body = none := by simpa using hb
  unfold callFunc
  have hE : Extern.MathFloatBits.float64bits #[.float .f64 n] = pure (.int .u64 n) := rfl
  simp [hf, h3, hb', h1, h2, hE]

theorem callFunc_bitsf {f : FuncId} {fn : Func} (hf : P.funcs[f]? = some fn) (hb : fn.body.isNone = true) (hn : fn.name = "math.Float64frombits") (ho : fn.origin = "") (n : Int) :
    (callFunc f #[.int .u64 n]).run P w = .ok (.value (.float .f64 n.toNat)) w := by
  have h1 : Extern.findNext fn = none := by simp [Extern.findNext, hn, ho, nxt_bitsf, nxt_none]
  have h2 : Extern.find fn = some Extern.MathFloatBits.float64frombits := by simp [Extern.find, hn, gen_bitsf, typ_bitsf, row_bitsf]
  have h3 : ¬ fn.name = "runtime.NumGoroutine" := by rw [hn]; decide
  have hb' : fn.body = none := by simpa using hb
  unfold callFunc
  have hE : Extern.MathFloatBits.float64frombits #[.int .u64 n] = pure (.float .f64 n.toNat) := rfl
  simp [hf, h3, hb', h1, h2, hE]

/-! ## Building -/

theorem VlR.cells {x : Vl} {v : Value} (h : VlR F ρ S w P x v) : All2 (CR F ρ S w P) x.cells v.cells.toList := by
  cases x with
  | one c =>
    have hx : CR F ρ S w P c v := h
    have : v.cells = #[v] := by
      cases c with
      | s c =>
        cases c with
        | d d => cases (show VD _ _ _ _ from hx) <;> rfl
        | ptr id ver off => obtain ⟨_, q, e, _⟩ := hx; rw [e]; rfl
        | ro l => obtain ⟨b, o, vs, e, _⟩ := hx; rw [e]; rfl
        | sl id ver off len cl => obtain ⟨_, q, r, e, _⟩ := hx; rw [e]; rfl
        | mp id => obtain ⟨_, q, e, _⟩ := hx; rw [e]; rfl
        | it id => obtain ⟨_, q, e, _⟩ := hx; rw [e]; rfl
      | fn f g l1 l2 => obtain ⟨q, r, e, _⟩ := hx; rw [e]; rfl
      | yld id => obtain ⟨_, q, e, _⟩ := hx; rw [e]; rfl
      | ifc t g l => obtain ⟨q, e, _⟩ := hx; rw [e]; rfl
    rw [this]; exact ⟨hx, trivial⟩
  | agg l => obtain ⟨q, e, hq⟩ := h; rw [e]; exact hq

theorem zeroOf_ok {t : TypeId} {z : Vl} (h : zeroOf P t = some z) : ∃ i v, P.info? t = some i ∧ i.zero = some v ∧ vlOf v = some z := by
  unfold zeroOf at h
  split at h
  · rename_i i hi
    split at h
    · rename_i v hv
      exact ⟨i, v, hi, hv, h⟩
    · cases h
  · cases h

theorem szOf_info {t : TypeId} {n : Nat} (h : szOf P t = some n) : ∃ i, P.info? t = some i ∧ i.size = n := by
  unfold szOf at h
  cases hi : P.info? t with
  | none => rw [hi] at h; cases h
  | some i => rw [hi] at h; cases h; exact ⟨i, rfl, rfl⟩

end
end Go.Rf
