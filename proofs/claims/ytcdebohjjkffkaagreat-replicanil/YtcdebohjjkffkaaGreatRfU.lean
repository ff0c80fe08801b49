/- Quiet operations, the rest of them. -/
import Derived.Test.YtcdebohjjkffkaaGreatRfT
namespace Go.Rf
set_option linter.unusedVariables false
set_option linter.unusedSimpArgs false
open Go

section
variable {F : Fo} {ρ : Pl} {S : St} {w : World} {P : Program}

theorem evUn_ok {op : UnOp} {x y : AVal} {a : Value} (h : evUn op x = some y) (hx : AR F ρ S w P x a) : ∃ u, (Op.unary op a).run P w = .ok u w ∧ AR F ρ S w P y u := by
  unfold evUn at h
  split at h
  · rename_i b hd
    cases h
    rw [(hx.dat hd).bool_inv]
    exact ⟨_, rfl, VD.bool _⟩
  · rename_i k n hd
    cases h
    rw [(hx.dat hd).int_inv]
    exact ⟨_, rfl, by rw [iWrap_eq]; exact VD.int _ _⟩
  · rename_i k n hd
    cases h
    rw [(hx.dat hd).int_inv]
    exact ⟨_, rfl, VD.int _ _⟩
  · cases h

theorem run_pickLess {α : Type} (b : Bool) (x y : α) : (bif b then x else y) = if b = true then x else y := by cases b <;> rfl

theorem evMnmx_ok {mx : Bool} {x y z : AVal} {a b : Value} (h : evMnmx mx x y = some z) (hx : AR F ρ S w P x a) (hy : AR F ρ S w P y b) :
    ∃ u, ((if mx = true then Builtin.max2 a b else Builtin.min2 a b) : Sem Value).run P w = .ok u w ∧ AR F ρ S w P z u := by
  unfold evMnmx at h
  split at h
  · rename_i k m k' n h1 h2
    split at h
    · rename_i hk
      have := kEq_iff.1 hk; subst this
      cases h
      rw [(hx.dat h1).int_inv, (hy.dat h2).int_inv]
      cases mx
      · refine ⟨_, rfl, ?_⟩
        simp only [run_pickLess, iLt_eq, decide_eq_true_eq]
        exact VD.int _ _
      · refine ⟨_, rfl, ?_⟩
        simp only [run_pickLess, iLt_eq, decide_eq_true_eq]
        exact VD.int _ _
    · cases h
  · cases h

theorem bound_ok {slots : PM AVal} {a : Act} (hs : SlR F ρ S w P slots a.tmps) {most dflt : Nat} {x : Option Operand} {y : Option AOpd} (hy : opdO x = some y) {n : Nat}
    (h : bound (rdS slots) most dflt y = some n) :
    (x = none ∧ n = dflt) ∨ (∃ o i k, x = some o ∧ a.eval o = .int k i ∧ 0 ≤ i ∧ i ≤ most ∧ n = i.toNat) := by
  cases x with
  | none => simp only [opdO, Option.some.injEq] at hy; subst hy; simp only [bound, Option.some.injEq] at h; exact .inl ⟨rfl, h.symm⟩
  | some o =>
    simp only [opdO] at hy
    cases ho : opd o with
    | none => simp [ho] at hy
    | some y' =>
      simp only [ho, Option.map_some, Option.some.injEq] at hy; subst hy
      simp only [bound] at h
      split at h
      · rename_i i hi
        split at h
        · cases h
        · rename_i hneg
          rw [iNeg_eq] at hneg
          split at h
          · rename_i hle
            cases h
            obtain ⟨k, hk⟩ := (opd_ok hs ho).int hi
            have := ble_iff.1 hle
            have hn : ¬ i < 0 := by simpa using hneg
            exact .inr ⟨o, i, k, rfl, hk, by omega, by omega, rfl⟩
          · cases h
      · cases h

theorem run_sliceBound {x : Value} {k : IntKind} {i : Int} {y : Nat} {code : BoundsCode} (hx : x = .int k i) (h0 : 0 ≤ i) (h1 : i ≤ y) :
    (Instr.sliceBound x y code).run P w = .ok i.toNat w := by
  subst hx
  simp [Instr.sliceBound, asIntOf, h0, h1]

/-- The bounds of a slice expression, where they are right. -/
theorem run_bounds {slots : PM AVal} {a : Act} (hs : SlR F ρ S w P slots a.tmps) {isSlice : Bool} {n cap : Nat} (hcap : n ≤ cap) {lo hi mx : Option Operand} {lo' hi' mx' : Option AOpd}
    (hlo : opdO lo = some lo') (hhi : opdO hi = some hi') (hmx : opdO mx = some mx') (hmh : mx = none ∨ hi ≠ none) {m h l : Nat}
    (e1 : bound (rdS slots) n n mx' = some m) (e2 : bound (rdS slots) m n hi' = some h) (e3 : bound (rdS slots) h 0 lo' = some l) :
    (Instr.sliceBounds isSlice n cap (lo.map a.eval) (hi.map a.eval) (mx.map a.eval)).run P w = .ok (l, h, if mx = none then cap else m) w ∧ l ≤ h ∧ h ≤ n ∧ m ≤ n ∧ h ≤ m := by
  have b1 := bound_ok hs hmx e1
  have b2 := bound_ok hs hhi e2
  have b3 := bound_ok hs hlo e3
  have hm : m ≤ n := by rcases b1 with ⟨_, rfl⟩ | ⟨_, i, _, _, _, _, h2, rfl⟩ <;> omega
  have hh : h ≤ m := by
    rcases b2 with ⟨e, rfl⟩ | ⟨_, i, _, _, _, _, h2, rfl⟩
    · rcases b1 with ⟨_, rfl⟩ | ⟨o, _, _, e', _⟩
      · exact Nat.le_refl _
      · rcases hmh with h | h
        · rw [h] at e'; cases e'
        · exact absurd e h
    · omega
  have hl : l ≤ h := by rcases b3 with ⟨_, rfl⟩ | ⟨_, i, _, _, _, _, h2, rfl⟩ <;> omega
  refine ⟨?_, hl, by omega, hm, hh⟩
  rcases b1 with ⟨rfl, rfl⟩ | ⟨om, im, km, rfl, em, hm0, hm1, rfl⟩
  · rcases b2 with ⟨rfl, rfl⟩ | ⟨oh, ih, kh, rfl, eh, hh0, hh1, rfl⟩
    · rcases b3 with ⟨rfl, rfl⟩ | ⟨ol, il, kl, rfl, el, hl0, hl1, rfl⟩
      · simp [Instr.sliceBounds]
      · simp [Instr.sliceBounds, run_sliceBound el hl0 hl1]
    · have r2 := fun (code : BoundsCode) => run_sliceBound (P := P) (w := w) (y := cap) (code := code) eh hh0 (by omega)
      rcases b3 with ⟨rfl, rfl⟩ | ⟨ol, il, kl, rfl, el, hl0, hl1, rfl⟩
      · simp [Instr.sliceBounds, r2]
      · simp [Instr.sliceBounds, r2, run_sliceBound (y := ih.toNat) el hl0 hl1]
  · rcases b2 with ⟨e, _⟩ | ⟨oh, ih, kh, rfl, eh, hh0, hh1, rfl⟩
    · rcases hmh with h | h
      · cases h
      · exact absurd e h
    · have r1 := fun (code : BoundsCode) => run_sliceBound (P := P) (w := w) (y := cap) (code := code) em hm0 (by omega)
      have r2 := fun (code : BoundsCode) => run_sliceBound (P := P) (w := w) (y := im.toNat) (code := code) eh hh0 (by omega)
      rcases b3 with ⟨rfl, rfl⟩ | ⟨ol, il, kl, rfl, el, hl0, hl1, rfl⟩
      · simp [Instr.sliceBounds, r1, r2]
      · simp [Instr.sliceBounds, r1, r2, run_sliceBound (y := ih.toNat) el hl0 hl1]

theorem flatten_take {α : Type} {sz : Nat} : ∀ (n : Nat) (l : List (List α)), (∀ e ∈ l, e.length = sz) → (l.take n).flatten = l.flatten.take (n * sz)
  | 0, l, _ => by simp
  | n + 1, [], _ => by simp
  | n + 1, e :: l, h => by
    have he : e.length = sz := h e (by simp)
    rw [List.take_succ_cons, List.flatten_cons, List.flatten_cons, flatten_take n l (fun x hx => h x (by simp [hx])), Nat.succ_mul, Nat.add_comm, ← he, List.take_length_add_append]

theorem flatten_drop {α : Type} {sz : Nat} : ∀ (n : Nat) (l : List (List α)), (∀ e ∈ l, e.length = sz) → (l.drop n).flatten = l.flatten.drop (n * sz)
  | 0, l, _ => by simp
  | n + 1, [], _ => by simp
  | n + 1, e :: l, h => by
    have he : e.length = sz := h e (by simp)
    rw [List.drop_succ_cons, List.flatten_cons, flatten_drop n l (fun x hx => h x (by simp [hx])), Nat.succ_mul, Nat.add_comm, ← he, List.drop_length_add_append]

theorem flatten_len {α : Type} {sz : Nat} : ∀ (l : List (List α)), (∀ e ∈ l, e.length = sz) → l.flatten.length = l.length * sz
  | [], _ => by simp
  | e :: l, h => by
    rw [List.flatten_cons, List.length_append, flatten_len l (fun x hx => h x (by simp [hx])), h e (by simp), List.length_cons, Nat.succ_mul, Nat.add_comm]

/-- A slice of data that is cut. -/
theorem VD.cut {ro : Nat → Prop} {els : List (List Dat)} {cl cl' : Bool} {a : Option Addr} {n cap sz : Nat} (h : VD w ro (.sl els cl) (.slice a n cap)) {l hh m : Nat}
    (hl : l ≤ hh) (hh1 : hh ≤ n) (hm : hh ≤ m) (hmc : m ≤ cap) (hcl : cl' = true → m = hh) (hsz : 0 < sz) (hs : ∀ e ∈ els, e.length = sz) :
    VD w ro (.sl ((els.take hh).drop l) cl') (.slice (if m = l then a else a.map (·.add (l * sz))) (hh - l) (m - l)) := by
  cases h with
  | sl _ _ _ _ sz0 b off vs hle hc hsz0 hlen ha hv =>
    have hflen : vs.length = els.length * sz := by rw [hlen, flatten_len els hs]
    have hlen' : ((els.take hh).drop l).length = hh - l := by simp; omega
    have hfl : ((els.take hh).drop l).flatten = (els.flatten.take (hh * sz)).drop (l * sz) := by
      rw [flatten_drop _ _ (fun e he => hs e (List.mem_of_mem_take he)), flatten_take _ _ hs]
    rw [← hlen']
    have hmul1 : l * sz ≤ hh * sz := Nat.mul_le_mul_right _ hl
    have hmul2 : hh * sz ≤ vs.length := by rw [hflen]; exact Nat.mul_le_mul_right _ hh1
    refine .sl _ _ _ _ sz b (off + l * sz) ((vs.take (hh * sz)).drop (l * sz)) (by omega) (fun e => by have := hcl e; omega)
      (fun e he => hs e (List.mem_of_mem_take (List.mem_of_mem_drop he))) ?_ ?_ ?_
    · rw [hfl]; simp [hlen]
    · intro hne
      have hpos : (vs.take (hh * sz)).drop (l * sz) ≠ [] := hne
      have hlt : l * sz < hh * sz := by
        cases Nat.lt_or_ge (l * sz) (hh * sz) with
        | inl h => exact h
        | inr h => exact absurd (List.drop_eq_nil_of_le (by simp; omega)) hpos
      have hlh : l < hh := Nat.lt_of_mul_lt_mul_right hlt
      have hvs : vs ≠ [] := by intro e; subst e; simp at hmul2; omega
      obtain ⟨h1, h2, h3⟩ := ha hvs
      refine ⟨?_, h2, (h3.take (hh * sz)).drop (l * sz) (by simp; omega)⟩
      rw [if_neg (by omega), h1]
      simp only [Option.map_some, Addr.add]
      split
      · rename_i h0; rw [h0]; simp
      · rfl
    · intro k x v hx hv'
      rw [hfl] at hx
      rw [List.getElem?_drop] at hx hv'
      rw [List.getElem?_take] at hx hv'
      split at hx
      · rename_i hk
        rw [if_pos hk] at hv'
        exact hv _ x v hx hv'
      · cases hx


theorem szOk_of {ro : Nat → Prop} {els : List (List Dat)} {cl : Bool} {v : Value} {sz : Nat} (h : VD w ro (.sl els cl) v) (hz : szOk sz els = true) : ∀ e ∈ els, e.length = sz := by
  cases h with
  | sl _ _ a cap sz0 b off vs hle hc hsz0 hlen ha hv =>
    cases els with
    | nil => intro e he; cases he
    | cons e0 r =>
      have h0 : e0.length = sz := beq_iff.1 hz
      intro e he
      rw [hsz0 e he, ← hsz0 e0 (by simp), h0]

theorem VD.sl_inv {ro : Nat → Prop} {els : List (List Dat)} {cl : Bool} {v : Value} (h : VD w ro (.sl els cl) v) : ∃ a cap, v = .slice a els.length cap ∧ els.length ≤ cap ∧ (cl = true → cap = els.length) := by
  cases h with
  | sl _ _ a cap sz0 b off vs hle hc hsz0 hlen ha hv => exact ⟨a, cap, rfl, hle, hc⟩

/-- What a slice's length says. -/
theorem slLen_ok {sz : Nat} {c : Cell0} {v : Value} {n : Nat} {cl : Bool} (h : slLen S sz c = some (n, cl)) (hc : C0 F ρ S w c v) :
    ∃ a cap, v = .slice a n cap ∧ n ≤ cap ∧ (cl = true → cap = n) ∧
      ((∃ els, c = .d (.sl els cl) ∧ els.length = n ∧ ∀ e ∈ els, e.length = sz) ∨
       (∃ id ver off, c = .sl id ver off n cl ∧ rowOf S id sz ver)) := by
  unfold slLen at h
  split at h
  · rename_i els cl'
    split at h
    · rename_i hz
      cases h
      obtain ⟨a, cap, rfl, h1, h2⟩ := VD.sl_inv hc
      exact ⟨a, cap, rfl, h1, h2, .inl ⟨els, rfl, rfl, szOk_of hc hz⟩⟩
    · cases h
  · rename_i id ver off len cl'
    obtain ⟨hb, a, cap, rfl, h1, h2, h3⟩ := hc
    split at h
    · rename_i t sz' ver' cs hg
      split at h
      · rename_i he
        rw [Bool.and_eq_true, beq_iff, beq_iff] at he
        obtain ⟨rfl, rfl⟩ := he
        cases h
        exact ⟨a, cap, rfl, h1, h2, .inr ⟨id, ver, off, rfl, .inl ⟨t, cs, hg⟩⟩⟩
      · cases h
    · rename_i sz' ver' els hg
      split at h
      · rename_i he
        rw [Bool.and_eq_true, beq_iff, beq_iff] at he
        obtain ⟨rfl, rfl⟩ := he
        cases h
        exact ⟨a, cap, rfl, h1, h2, .inr ⟨id, ver, off, rfl, .inr ⟨els, hg⟩⟩⟩
      · cases h
    · cases h
  · cases h

theorem evSlice_ok {slots : PM AVal} {a : Act} (hs : SlR F ρ S w P slots a.tmps) {t e : TypeId} {sz : Nat} (ht : P.underlying t = some (.slice e)) (hsz : szOf P e = some sz) (h0 : sz ≠ 0)
    {x y : AVal} {v : Value} {lo hi mx : Option Operand} {lo' hi' mx' : Option AOpd}
    (hlo : opdO lo = some lo') (hhi : opdO hi = some hi') (hmx : opdO mx = some mx') (hmh : mx = none ∨ hi ≠ none)
    (h : evSlice S sz (rdS slots) x lo' hi' mx' = some y) (hx : AR F ρ S w P x v) :
    ∃ u, (Instr.sliceAt t v (lo.map a.eval) (hi.map a.eval) (mx.map a.eval)).run P w = .ok u w ∧ AR F ρ S w P y u := by
  unfold evSlice at h
  split at h
  · rename_i c hc
    have hx := hx.cell0 hc
    split at h
    · cases h
    · rename_i n cl hn
      obtain ⟨ad, cap, rfl, hcap, hcl, hk⟩ := slLen_ok hn hx
      split at h
      · cases h
      · rename_i m e1
        split at h
        · cases h
        · rename_i hh e2
          split at h
          · cases h
          · rename_i l e3
            obtain ⟨hr, hl1, hl2, hl3, hl4⟩ := run_bounds (P := P) (w := w) (isSlice := true) hs hcap hlo hhi hmx hmh e1 e2 e3
            refine ⟨.slice (if (if mx = none then cap else m) = l then ad else ad.map (·.add (l * sz))) (hh - l) ((if mx = none then cap else m) - l), ?_, ?_⟩
            · simp [Instr.sliceAt, run_und ht, Instr.slice, hr, run_size hsz]
            · have hmc : (if mx = none then cap else m) ≤ cap := by split <;> omega
              have hhm : hh ≤ (if mx = none then cap else m) := by split <;> omega
              have hcl' : cutCl m hh n cl mx' = true → (if mx = none then cap else m) = hh := by
                intro hb
                cases mx with
                | none =>
                  simp only [opdO, Option.some.injEq] at hmx; subst hmx
                  simp only [cutCl, Bool.and_eq_true, beq_iff] at hb
                  rw [if_pos rfl, hcl hb.1, hb.2]
                | some o =>
                  simp only [opdO] at hmx
                  cases ho : opd o with
                  | none => simp [ho] at hmx
                  | some o' => simp only [ho, Option.map_some, Option.some.injEq] at hmx; subst hmx; rw [if_neg (by simp)]; simp only [cutCl] at hb; exact beq_iff.1 hb
              generalize (if mx = none then cap else m) = M at *
              generalize cutCl m hh n cl mx' = cl' at *
              rcases hk with ⟨els, rfl, rfl, hel⟩ | ⟨id, ver, off, rfl, hrow⟩
              · simp only [cutTo, Option.some.injEq] at h; subst h
                exact VD.cut hx hl1 hl2 hhm hmc hcl' (by omega) hel
              · simp only [cutTo, Option.some.injEq] at h; subst h
                obtain ⟨hb, ad', cap', heq, h1, h2, h3⟩ := hx
                cases heq
                refine ⟨hb, _, _, rfl, by omega, fun e => by have := hcl' e; omega, fun sz' ver' hr' => ?_⟩
                obtain ⟨h4, h5⟩ := h3 sz' ver' hr'
                refine ⟨h4, fun e hp => ?_⟩
                subst e
                have hss : sz' = sz := by
                  rcases hr' with ⟨t1, c1, g1⟩ | ⟨c1, g1⟩ <;> rcases hrow with ⟨t2, c2, g2⟩ | ⟨c2, g2⟩ <;> rw [g1] at g2 <;> cases g2 <;> rfl
                subst hss
                obtain ⟨h6, h7⟩ := h5 rfl (by omega)
                have hml : M ≠ l := by omega
                rw [if_neg hml, h6]
                refine ⟨?_, ?_⟩
                · simp only [Option.map_some, Addr.add]
                  split
                  · rename_i hz; congr 2; rw [Nat.add_mul]; omega
                  · congr 2; rw [Nat.add_mul]; omega
                · obtain ⟨c1, e1, f1, g1, g2⟩ := h7
                  refine ⟨c1, e1, f1, g1, Nat.le_trans ?_ g2⟩
                  have : off + l + (M - l) ≤ off + cap := by omega
                  have := Nat.mul_le_mul_right sz' this
                  omega
  · cases h

end
end Go.Rf
