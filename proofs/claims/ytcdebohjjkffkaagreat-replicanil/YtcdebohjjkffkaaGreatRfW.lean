/- All quiet operations in one theorem. -/
import Derived.Test.YtcdebohjjkffkaaGreatRfV
namespace Go.Rf
set_option linter.unusedVariables false
set_option linter.unusedSimpArgs false
open Go

section
variable {F : Fo} {ρ : Pl} {S : St} {w : World} {P : Program}

theorem addr_add (b off n : Nat) : (⟨b, off, none⟩ : Addr).add n = ⟨b, off + n, none⟩ := by
  unfold Addr.add; split
  · rename_i h; subst h; rfl
  · rfl

theorem ro_drop {cs : List Dat} {b off : Nat} {vs : List Value} (n : Nat) (hn : n ≤ cs.length) (h2 : vs.length = cs.length) (h3 : vs ≠ [] → Ro F ρ S w b ∧ Lies w b off vs)
    (h4 : All2 (VD w (Ro F ρ S w)) cs vs) : C0 F ρ S w (.ro (cs.drop n)) (.pointer (some ⟨b, off + n, none⟩)) :=
  ⟨b, off + n, vs.drop n, rfl, by simp [h2], fun hne => by
    have : vs ≠ [] := by intro e; subst e; simp at hne
    exact ⟨(h3 this).1, (h3 this).2.drop n (by omega)⟩, h4.drop n⟩

theorem evFaddr_ok {t : TypeId} {fs : Array Field} {f : Nat} {fd : Field} {x y : AVal} {v : Value} (ht : P.underlying t = some (.struct fs)) (hf : fs[f]? = some fd) {s : Nat} (hs : szOf P fd.type = some s)
    (h0 : s ≠ 0) (h : evFaddr fd.offset x = some y) (hx : AR F ρ S w P x v) : ∃ u, (Instr.fieldAt t v f).run P w = .ok u w ∧ AR F ρ S w P y u := by
  have run : ∀ a : Addr, (Instr.fieldAt t (.pointer (some a)) f).run P w = .ok (.pointer (some (a.add fd.offset))) w := by
    intro a; simp [Instr.fieldAt, run_und ht, hf, Instr.sureAddr, fieldPlace, run_size hs, h0]
  unfold evFaddr at h
  split at h
  · rename_i id ver o hc
    cases h
    obtain ⟨hb, a, rfl, hp⟩ := hx.cell0 hc
    refine ⟨_, run a, hb, _, rfl, fun sz ver' hr => ?_⟩
    obtain ⟨h1, h2⟩ := hp sz ver' hr
    exact ⟨h1, fun e => by rw [h2 e, addr_add, Nat.add_assoc]⟩
  · rename_i cs hc
    cases h
    obtain ⟨b, off, vs, rfl, h2, h3, h4⟩ := hx.cell0 hc
    refine ⟨_, run _, ?_⟩
    rw [addr_add]
    by_cases hn : fd.offset ≤ cs.length
    · exact ro_drop fd.offset hn h2 h3 h4
    · rw [List.drop_eq_nil_of_le (by omega)]
      exact ⟨b, off + fd.offset, [], rfl, rfl, fun h => absurd rfl h, trivial⟩
  · cases h

theorem evField_ok {t : TypeId} {fs : Array Field} {f : Nat} {fd : Field} {x y : AVal} {v : Value} (ht : P.underlying t = some (.struct fs)) (hf : fs[f]? = some fd) {agg : Bool} {s : Nat}
    (ha : isAggT P fd.type = some agg) (hs : szOf P fd.type = some s) (h0 : s ≠ 0) (h : evField agg fd.offset s x = some y) (hx : AR F ρ S w P x v) :
    ∃ u, (Instr.field t v f).run P w = .ok u w ∧ AR F ρ S w P y u := by
  unfold evField at h
  split at h
  · rename_i cs
    split at h
    · rename_i l hl
      obtain ⟨rfl, hle⟩ := takeN_eq _ _ _ hl
      cases hm : mkVl agg (List.take s (List.drop fd.offset cs)) with
      | none => rw [hm] at h; cases h
      | some z =>
        rw [hm] at h; cases h
        obtain ⟨a, rfl, hall⟩ := hx
        have hlen := hall.length
        have hall' := (hall.drop fd.offset).take s
        rcases mkVl_ok hm hall' with ⟨rfl, hv⟩ | ⟨rfl, v, hv1, hv⟩
        · refine ⟨_, ?_, hv⟩
          simp only [Instr.field, Sem.run_bind, run_und ht, Result.andThen_ok, hf, asAgg, Sem.run_pure, run_part_agg ha hs]
          rw [← extract_toList]
        · refine ⟨v, ?_, hv⟩
          have hg : a[fd.offset]? = some v := by
            have h0' : (List.take s (List.drop fd.offset a.toList))[0]? = some v := by rw [hv1]; rfl
            rw [List.getElem?_take, List.getElem?_drop] at h0'
            split at h0'
            · simpa using h0'
            · cases h0'
          simp only [Instr.field, Sem.run_bind, run_und ht, Result.andThen_ok, hf, asAgg, Sem.run_pure, run_part_one ha hg]
    · cases h
  · cases h

theorem evAidx_ok {t e : TypeId} {n : Nat} {x i y : AVal} {v b : Value} (ht : P.underlying t = some (.array n e)) {agg : Bool} {s : Nat} (ha : isAggT P e = some agg) (hs : szOf P e = some s) (h0 : s ≠ 0)
    (h : evAidx agg n s x i = some y) (hx : AR F ρ S w P x v) (hi : AR F ρ S w P i b) : ∃ u, (Instr.index t v b).run P w = .ok u w ∧ AR F ρ S w P y u := by
  unfold evAidx at h
  split at h
  · rename_i cs j hj
    obtain ⟨k, rfl⟩ := hi.int hj
    split at h
    · rename_i hr
      rw [Bool.and_eq_true, iNeg_eq, iLt_eq] at hr
      have hr1 : 0 ≤ j := by have := hr.1; simp at this; exact this
      have hr2 : j < n := of_decide_eq_true hr.2
      split at h
      · rename_i l hl
        obtain ⟨rfl, hle⟩ := takeN_eq _ _ _ hl
        cases hm : mkVl agg (List.take s (List.drop (j.toNat * s) cs)) with
        | none => rw [hm] at h; cases h
        | some z =>
          rw [hm] at h; cases h
          obtain ⟨a, rfl, hall⟩ := hx
          have hall' := (hall.drop (j.toNat * s)).take s
          rcases mkVl_ok hm hall' with ⟨rfl, hv⟩ | ⟨rfl, v, hv1, hv⟩
          · refine ⟨_, ?_, hv⟩
            simp only [Instr.index, asIntOf, Sem.run_bind, Sem.run_pure, run_und ht, Result.andThen_ok, hr1, hr2, and_self, if_true, run_size hs, run_part_agg ha hs]
            rw [← extract_toList]
          · refine ⟨v, ?_, hv⟩
            have hg : a[j.toNat * s]? = some v := by
              have h0' : (List.take s (List.drop (j.toNat * s) a.toList))[0]? = some v := by rw [hv1]; rfl
              rw [List.getElem?_take, List.getElem?_drop] at h0'
              split at h0'
              · simpa using h0'
              · cases h0'
            simp only [Instr.index, asIntOf, Sem.run_bind, Sem.run_pure, run_und ht, Result.andThen_ok, hr1, hr2, and_self, if_true, run_size hs, run_part_one ha hg]
      · cases h
    · cases h
  · cases h

theorem bytesOf_get (s : ByteArray) (n : Nat) (b : Nat) (h : (bytesOf s)[n]? = some b) : ∃ c, s[n]? = some c ∧ c.toNat = b := by
  unfold bytesOf at h
  rw [List.getElem?_map] at h
  cases hc : s.data.toList[n]? with
  | none => rw [hc] at h; cases h
  | some c =>
    rw [hc] at h
    simp only [Option.map_some, Option.some.injEq] at h
    refine ⟨c, ?_, h⟩
    have hlt : n < s.size := by
      cases Nat.lt_or_ge n s.size with
      | inl h => exact h
      | inr hge => rw [List.getElem?_eq_none (by rw [Array.length_toList]; exact hge)] at hc; cases hc
    rw [getElem?_pos s n hlt]
    rw [Array.getElem?_toList, Array.getElem?_eq_getElem (show n < s.data.size from hlt)] at hc
    exact hc

theorem evSidx_ok {t : TypeId} {x i y : AVal} {v b : Value} (ht : P.underlying t = some .string) (h : evSidx x i = some y) (hx : AR F ρ S w P x v) (hi : AR F ρ S w P i b) :
    ∃ u, (Instr.index t v b).run P w = .ok u w ∧ AR F ρ S w P y u := by
  unfold evSidx at h
  split at h
  · rename_i s n h1 h2
    obtain ⟨k, rfl⟩ := hi.int h2
    obtain ⟨u, rfl, rfl⟩ := (hx.dat h1).str_inv
    split at h
    · cases h
    · rename_i hn
      rw [iNeg_eq] at hn
      have hn : 0 ≤ n := by simpa using hn
      split at h
      · rename_i c hc
        cases h
        obtain ⟨c', e1, e2⟩ := bytesOf_get u n.toNat c hc
        refine ⟨.int .u8 c, ?_, VD.int _ _⟩
        simp only [Instr.index, asIntOf, Sem.run_bind, Sem.run_pure, run_und ht, Result.andThen_ok, hn, if_true, e1]
        rw [← e2]
      · cases h
  · cases h

theorem bytesOf_extract (s : ByteArray) (l h : Nat) (hl : l ≤ h) (hh : h ≤ s.size) : bytesOf (s.extract l h) = ((bytesOf s).take h).drop l := by
  unfold bytesOf
  rw [Lib.extract_data, List.map_take, List.map_drop, List.drop_take]

theorem evSslice_ok {slots : PM AVal} {a : Act} (hs : SlR F ρ S w P slots a.tmps) {t : TypeId} (ht : P.underlying t = some .string) {x y : AVal} {v : Value} {lo hi : Option Operand} {lo' hi' : Option AOpd}
    (hlo : opdO lo = some lo') (hhi : opdO hi = some hi') (h : evSslice (rdS slots) x lo' hi' = some y) (hx : AR F ρ S w P x v) :
    ∃ u, (Instr.sliceAt t v (lo.map a.eval) (hi.map a.eval) none).run P w = .ok u w ∧ AR F ρ S w P y u := by
  unfold evSslice at h
  split at h
  · rename_i s h1
    obtain ⟨u, rfl, rfl⟩ := (hx.dat h1).str_inv
    rw [bytesOf_length] at h
    split at h
    · cases h
    · rename_i hh e2
      split at h
      · cases h
      · rename_i l e3
        cases h
        obtain ⟨hr, h3, h4, _, _⟩ := run_bounds (P := P) (w := w) (isSlice := false) (n := u.size) (cap := u.size) (mx := none) (mx' := none) hs (Nat.le_refl _) hlo hhi rfl (.inl rfl) rfl e2 e3
        refine ⟨.string (u.extract l hh), ?_, by rw [← bytesOf_extract u l hh h3 h4]; exact VD.str _⟩
        have hr : (Instr.sliceBounds false u.size u.size (lo.map a.eval) (hi.map a.eval) none).run P w = .ok (l, hh, u.size) w := by simpa using hr
        simp [Instr.sliceAt, run_und ht, Instr.slice, hr]
  · cases h

theorem evLen_ok (hR : R F ρ S w P) {t ty : TypeId} {k : LenK} {x y : AVal} {v : Value} (ht : match k with
      | .str => P.underlying t = some .string
      | .sl => ∃ e, P.underlying t = some (.slice e)
      | .map => ∃ k e, P.underlying t = some (.map k e))
    (h : evLen S k x = some y) (hx : AR F ρ S w P x v) : ∃ u, (Builtin.len_ #[t] ty #[v]).run P w = .ok u w ∧ AR F ρ S w P y u := by
  unfold evLen at h
  split at h
  · rename_i s hc
    cases h
    obtain ⟨u, rfl, rfl⟩ := VD.str_inv (hx.cell0 hc)
    exact ⟨_, by simp [Builtin.len_, run_und ht]; rfl, by rw [bytesOf_length]; exact VD.int _ _⟩
  · rename_i els cl hc
    cases h
    obtain ⟨e, ht⟩ := ht
    obtain ⟨a, cap, rfl, _⟩ := VD.sl_inv (hx.cell0 hc)
    exact ⟨_, by simp [Builtin.len_, run_und ht]; rfl, VD.int _ _⟩
  · rename_i id ver off len cl hc
    cases h
    obtain ⟨e, ht⟩ := ht
    obtain ⟨_, a, cap, rfl, _⟩ := hx.cell0 hc
    exact ⟨_, by simp [Builtin.len_, run_und ht]; rfl, VD.int _ _⟩
  · rename_i hc
    cases h
    obtain ⟨kk, e, ht⟩ := ht
    rw [VD.nilm_inv (hx.cell0 hc)]
    exact ⟨_, by simp [Builtin.len_, run_und ht]; rfl, VD.int _ _⟩
  · rename_i id hc
    obtain ⟨kk, e, ht⟩ := ht
    obtain ⟨_, r, rfl, hr⟩ := hx.cell0 hc
    split at h
    · rename_i k' es clock hg
      cases h
      obtain ⟨ms, h1, h2⟩ := map_ob hR hg
      rw [← hr _ hg rfl] at h1
      have hl : es.length = ms.size := by simpa using h2.length
      exact ⟨_, by simp [Builtin.len_, run_und ht, run_getObj h1]; rfl, by rw [hl]; exact VD.int _ _⟩
    · cases h
  · cases h

theorem evIaddr_ok (hR : R F ρ S w P) {t e : TypeId} {s : Nat} {al : Option Nat} {x i y : AVal} {v b : Value} (hs : szOf P e = some s) (h0 : s ≠ 0)
    (ht : match al with
      | none => P.underlying t = some (.slice e)
      | some n => P.underlying t = some (.array n e))
    (h : evIaddr S s al x i = some y) (hx : AR F ρ S w P x v) (hi : AR F ρ S w P i b) : ∃ u, (Instr.indexAt t v b).run P w = .ok u w ∧ AR F ρ S w P y u := by
  unfold evIaddr at h
  split at h
  · rename_i c n hc hn
    obtain ⟨k, rfl⟩ := hi.int hn
    have hx := hx.cell0 hc
    split at h
    · cases h
    · rename_i hneg
      rw [iNeg_eq] at hneg
      have hneg : 0 ≤ n := by simpa using hneg
      split at h
      · rename_i els cl
        split at h
        · rename_i el hel
          split at h
          · rename_i hlen
            cases h
            have hlen := beq_iff.1 hlen
            cases hx with
            | sl _ _ a cap sz0 b off vs hle hcl hsz hlen' ha hv =>
              have hmem : el ∈ els := List.mem_of_getElem? hel
              have hall : ∀ e ∈ els, e.length = s := fun e he => by rw [hsz e he, ← hsz el hmem, hlen]
              have hlt : n.toNat < els.length := by
                cases Nat.lt_or_ge n.toNat els.length with
                | inl h => exact h
                | inr h => rw [List.getElem?_eq_none h] at hel; cases hel
              have hfl := flatten_len els hall
              have hmul : n.toNat * s + s ≤ els.length * s := by rw [← Nat.succ_mul]; exact Nat.mul_le_mul_right _ hlt
              have hvl : vs.length = els.length * s := hlen'.trans hfl
              have hne : vs ≠ [] := by intro e; rw [e] at hvl; simp only [List.length_nil] at hvl; omega
              obtain ⟨h1, h2, h3⟩ := ha hne
              subst h1
              refine ⟨.pointer (some ⟨b, off + n.toNat * s, none⟩), ?_, ?_⟩
              · have hni : n < els.length := by omega
                simp [Instr.indexAt, asIntOf, run_und ht, hneg, hni, run_size hs, addr_add]
              · refine ⟨b, off + n.toNat * s, (vs.drop (n.toNat * s)).take s, rfl, by simp only [List.length_take, List.length_drop]; omega, fun _ => ⟨h2, (h3.drop _ (by omega)).take s⟩, ?_⟩
                have hel2 : el = (els.flatten.drop (n.toNat * s)).take s := by
                  rw [← flatten_drop _ _ hall]
                  have : els.drop n.toNat = el :: els.drop (n.toNat + 1) := by
                    rw [List.getElem?_eq_getElem hlt] at hel; cases hel; exact List.drop_eq_getElem_cons hlt
                  rw [this, List.flatten_cons, ← hlen, List.take_left']; rfl
                rw [hel2]
                exact All2.of_get (by simp only [List.length_take, List.length_drop]; omega) fun k a v h1 h2 => by
                  rw [List.getElem?_take] at h1 h2
                  split at h1
                  · rename_i hk
                    rw [if_pos hk] at h2
                    rw [List.getElem?_drop] at h1 h2
                    exact hv _ a v h1 h2
                  · cases h1
          · cases h
        · cases h
      · rename_i id ver off len cl
        split at h
        · cases h
        · rename_i hlt
          have hlt := blt_iff.1 hlt
          obtain ⟨hb, a, cap, rfl, h1, h2, h3⟩ := hx
          have hni : n < (len : Int) := by omega
          split at h
          · rename_i t' sz' ver' cs hg
            split at h
            · rename_i he
              cases h
              rw [Bool.and_eq_true, beq_iff, beq_iff] at he
              obtain ⟨rfl, rfl⟩ := he
              obtain ⟨_, h4⟩ := h3 s ver (.inl ⟨t', cs, hg⟩)
              obtain ⟨h5, _⟩ := h4 rfl (by omega)
              subst h5
              refine ⟨.pointer (some ⟨(ρ.at id).1, (ρ.at id).2 + (off + n.toNat) * s, none⟩), ?_, hb, _, rfl, fun sz2 ver2 hr => ?_⟩
              · simp [Instr.indexAt, asIntOf, run_und ht, hneg, hni, run_size hs, addr_add, Nat.add_mul, Nat.add_assoc]
              · obtain ⟨h6, _⟩ := h3 sz2 ver2 hr; exact ⟨h6, fun _ => rfl⟩
            · cases h
          · rename_i sz' ver' els hg
            split at h
            · rename_i he
              rw [Bool.and_eq_true, beq_iff, beq_iff] at he
              obtain ⟨rfl, rfl⟩ := he
              split at h
              · rename_i el hel
                split at h
                · rename_i hlen
                  cases h
                  have hlen := beq_iff.1 hlen
                  obtain ⟨_, h4⟩ := h3 s ver (.inr ⟨els, hg⟩)
                  obtain ⟨h5, _⟩ := h4 rfl (by omega)
                  subst h5
                  obtain ⟨_, hall, hro, vs, h6, h7⟩ := (hR.ob _ _ hg).2
                  have hvl := h7.length
                  have hlt' : off + n.toNat < els.length := by
                    cases Nat.lt_or_ge (off + n.toNat) els.length with
                    | inl h => exact h
                    | inr h => rw [List.getElem?_eq_none h] at hel; cases hel
                  have hfl := flatten_len els hall
                  have hmul : (off + n.toNat) * s + s ≤ els.length * s := by rw [← Nat.succ_mul]; exact Nat.mul_le_mul_right _ hlt'
                  refine ⟨.pointer (some ⟨(ρ.at id).1, (ρ.at id).2 + (off + n.toNat) * s, none⟩), ?_, ?_⟩
                  · simp [Instr.indexAt, asIntOf, run_und ht, hneg, hni, run_size hs, addr_add, Nat.add_mul, Nat.add_assoc]
                  · refine ⟨_, _, (vs.drop ((off + n.toNat) * s)).take s, rfl, by simp only [List.length_take, List.length_drop]; omega, fun _ => ⟨hro, (h6.drop _ (by omega)).take s⟩, ?_⟩
                    have hel2 : el = (els.flatten.drop ((off + n.toNat) * s)).take s := by
                      rw [← flatten_drop _ _ hall]
                      have : els.drop (off + n.toNat) = el :: els.drop (off + n.toNat + 1) := by
                        rw [List.getElem?_eq_getElem hlt'] at hel; cases hel; exact List.drop_eq_getElem_cons hlt'
                      rw [this, List.flatten_cons, ← hlen, List.take_left']; rfl
                    rw [hel2]
                    exact (h7.drop _).take s
                · cases h
              · cases h
            · cases h
          · cases h
      · rename_i m id ver off
        split at h
        · rename_i hlt
          cases h
          have hlt := blt_iff.1 hlt
          obtain ⟨hb, a, rfl, hp⟩ := hx
          have hni : n < (m : Int) := by omega
          refine ⟨.pointer (some (a.add (n.toNat * s))), ?_, hb, _, rfl, fun sz2 ver2 hr => ?_⟩
          · simp [Instr.indexAt, asIntOf, run_und ht, hneg, hni, run_size hs, Instr.sureAddr]
          · obtain ⟨h6, h7⟩ := hp sz2 ver2 hr
            exact ⟨h6, fun e => by rw [h7 e, addr_add, Nat.add_assoc]⟩
        · cases h
      · rename_i m cs
        split at h
        · rename_i hlt
          cases h
          have hlt := blt_iff.1 hlt
          obtain ⟨b, off, vs, rfl, h2, h3, h4⟩ := hx
          have hni : n < (m : Int) := by omega
          refine ⟨.pointer (some ⟨b, off + n.toNat * s, none⟩), ?_, ?_⟩
          · simp [Instr.indexAt, asIntOf, run_und ht, hneg, hni, run_size hs, Instr.sureAddr, addr_add]
          · by_cases hn : n.toNat * s ≤ cs.length
            · exact ro_drop _ hn h2 h3 h4
            · rw [List.drop_eq_nil_of_le (by omega)]
              exact ⟨b, off + n.toNat * s, [], rfl, rfl, fun h => absurd rfl h, trivial⟩
        · cases h
      · cases h
  · cases h

end
end Go.Rf
