/- Structs and arrays of scalars are alike just where their scalars are. -/
import Derived.Test.YtcdebohjjkffkaaGreatRfQ
import Derived.Laws.StructEq
namespace Go.Rf
set_option linter.unusedVariables false
set_option linter.unusedSimpArgs false
open Go

/-- Two scalars, and whether they are alike. -/
def Sc : SK → Value → Value → Bool → Prop
  | .int, .int k a, .int l b, r => k = l ∧ r = (a == b)
  | .str, .string a, .string b, r => r = (a.toList == b.toList)
  | .bool, .bool a, .bool b, r => r = (a == b)
  | _, _, _, _ => False

def PairEq : List SK → List Value → List Value → Bool → Prop
  | [], [], [], r => r = true
  | k :: ks, x :: xs, y :: ys, r => ∃ a b, Sc k x y a ∧ PairEq ks xs ys b ∧ r = (a && b)
  | _, _, _, _ => False

theorem PairEq.len : ∀ {ks : List SK} {xs ys : List Value} {r : Bool}, PairEq ks xs ys r → xs.length = ks.length ∧ ys.length = ks.length
  | [], [], [], _, _ => ⟨rfl, rfl⟩
  | _ :: ks, _ :: xs, _ :: ys, _, h => by
    obtain ⟨a, b, _, h2, _⟩ := h
    obtain ⟨h3, h4⟩ := PairEq.len h2
    exact ⟨by simp [h3], by simp [h4]⟩
  | [], _ :: _, _, _, h => h.elim
  | [], [], _ :: _, _, h => h.elim
  | _ :: _, [], _, _, h => h.elim
  | _ :: _, _ :: _, [], _, h => h.elim

theorem PairEq.split : ∀ (ks1 : List SK) {ks2 : List SK} {xs ys : List Value} {r : Bool}, PairEq (ks1 ++ ks2) xs ys r →
    ∃ r1 r2, PairEq ks1 (xs.take ks1.length) (ys.take ks1.length) r1 ∧ PairEq ks2 (xs.drop ks1.length) (ys.drop ks1.length) r2 ∧ r = (r1 && r2)
  | [], ks2, xs, ys, r, h => ⟨true, r, rfl, h, by simp⟩
  | k :: ks1, ks2, x :: xs, y :: ys, r, h => by
    obtain ⟨a, b, h1, h2, rfl⟩ := h
    obtain ⟨r1, r2, h3, h4, rfl⟩ := PairEq.split ks1 h2
    exact ⟨a && r1, r2, ⟨a, r1, h1, h3, rfl⟩, h4, by rw [Bool.and_assoc]⟩
  | _ :: _, _, [], _, _, h => h.elim
  | _ :: _, _, _ :: _, [], _, h => h.elim

section
variable {P : Program} {w : World}

/-- How two values of a type with these scalars are compared. -/
def EqAt (P : Program) (w : World) (d : Nat) (t : TypeId) (ks : List SK) : Prop :=
  (isAggT P t = some true → ∀ (X Y : Array Value) r, PairEq ks X.toList Y.toList r → (Op.equalIn d t (.agg X) (.agg Y)).run P w = .ok r w) ∧
  (isAggT P t = some false → ∀ x y r, PairEq ks [x] [y] r → (Op.equalIn d t x y).run P w = .ok r w)

theorem run_part_agg {t : TypeId} {n off : Nat} {X : Array Value} (ha : isAggT P t = some true) (hn : szOf P t = some n) :
    (part t X off).run P w = .ok (.agg (X.extract off (off + n))) w := by
  simp [part, Sem.run_bind, run_agg ha, run_size hn]

theorem run_part_one {t : TypeId} {off : Nat} {X : Array Value} {v : Value} (ha : isAggT P t = some false) (hv : X[off]? = some v) :
    (part t X off).run P w = .ok v w := by
  simp [part, Sem.run_bind, run_agg ha, hv]

theorem extract_toList (X : Array Value) (off n : Nat) : (X.extract off (off + n)).toList = (X.toList.drop off).take n := by
  rw [Array.toList_extract]; simp [List.extract_eq_take_drop]

theorem sks_agg {n : Nat} {t : TypeId} {ks : List SK} (h : sksOf P n t = some ks) : ∃ b, isAggT P t = some b ∧ (b = false → ks.length = 1) := by
  cases n with
  | zero => simp [sksOf] at h
  | succ n =>
    simp only [sksOf] at h
    unfold isAggT
    cases hu : P.underlying t with
    | none => simp [hu] at h
    | some d => cases d <;> simp [hu] at h <;> first
      | (subst h; exact ⟨false, rfl, fun _ => rfl⟩)
      | exact ⟨true, rfl, fun h => by cases h⟩

/-- One part of two rows of cells. -/
theorem eq_part {d off n : Nat} {t : TypeId} {ks : List SK} {X Y : Array Value} {xs ys : List Value} {r : Bool} (hE : EqAt P w d t ks) (hb : ∃ b, isAggT P t = some b ∧ (b = false → ks.length = 1))
    (hn : szOf P t = some n) (hl : ks.length = n) (hx : X.toList.drop off = xs) (hy : Y.toList.drop off = ys) (hp : PairEq ks (xs.take n) (ys.take n) r) :
    ∃ a b, (part t X off).run P w = .ok a w ∧ (part t Y off).run P w = .ok b w ∧ (Op.equalIn d t a b).run P w = .ok r w := by
  obtain ⟨b, hb, h1⟩ := hb
  cases b with
  | true =>
    refine ⟨_, _, run_part_agg hb hn, run_part_agg hb hn, hE.1 hb _ _ r ?_⟩
    rw [extract_toList, extract_toList, hx, hy]; exact hp
  | false =>
    have h1 := h1 rfl
    obtain ⟨l1, l2⟩ := hp.len
    have key : ∀ (Z : Array Value) (zs : List Value), Z.toList.drop off = zs → (zs.take n).length = ks.length → ∃ v, zs.take n = [v] ∧ Z[off]? = some v := by
      intro Z zs hz hlen
      rw [h1] at hlen
      obtain ⟨v, hv⟩ := List.length_eq_one_iff.1 hlen
      refine ⟨v, hv, ?_⟩
      have : zs[0]? = some v := by
        have h0 : (zs.take n)[0]? = some v := by rw [hv]; rfl
        rw [List.getElem?_take] at h0
        split at h0
        · exact h0
        · cases h0
      rw [← hz, List.getElem?_drop, Nat.add_zero, Array.getElem?_toList] at this
      exact this
    obtain ⟨v, e1, e2⟩ := key X xs hx l1
    obtain ⟨u, e3, e4⟩ := key Y ys hy l2
    exact ⟨v, u, run_part_one hb e2, run_part_one hb e4, hE.2 hb v u r (by rw [e1, e3] at hp; exact hp)⟩

theorem eqFields_ok {d : Nat} {sks : TypeId → Option (List SK)} (hs : ∀ t ks, sks t = some ks → EqAt P w d t ks ∧ ∃ b, isAggT P t = some b ∧ (b = false → ks.length = 1)) (X Y : Array Value) :
    ∀ (fs : List Field) (off : Nat) (ks : List SK) (r : Bool), fieldsSks P sks off fs = some ks → PairEq ks (X.toList.drop off) (Y.toList.drop off) r →
      (Op.eqFields d X Y fs).run P w = .ok r w
  | [], off, ks, r, h, hp => by
    simp only [fieldsSks, Option.some.injEq] at h; subst h
    cases hx : X.toList.drop off with
    | cons a l => rw [hx] at hp; exact hp.elim
    | nil => cases hy : Y.toList.drop off with
      | cons a l => rw [hx, hy] at hp; exact hp.elim
      | nil => rw [hx, hy] at hp; simp only [PairEq] at hp; subst hp; simp [Op.eqFields]
  | f :: fs, off, ks, r, h, hp => by
    simp only [fieldsSks] at h
    split at h
    · cases h
    · rename_i hname
      split at h
      · rename_i k1 n h1 h2
        split at h
        · rename_i hof
          obtain ⟨ho, hl⟩ := hof
          cases hk : fieldsSks P sks (off + n) fs with
          | none => simp [hk] at h
          | some k2 =>
            simp only [hk, Option.map_some, Option.some.injEq] at h; subst h
            obtain ⟨r1, r2, p1, p2, rfl⟩ := PairEq.split k1 hp
            rw [hl] at p1 p2
            rw [List.drop_drop, List.drop_drop] at p2
            obtain ⟨a, b, e1, e2, e3⟩ := eq_part (hs _ _ h1).1 (hs _ _ h1).2 h2 hl rfl rfl p1
            have ih := eqFields_ok hs X Y fs (off + n) k2 r2 hk p2
            simp only [Op.eqFields, ne_eq, hname, not_false_eq_true, if_true, Sem.run_bind, ho, e1, e2, e3, Result.andThen_ok, Sem.run_ite]
            cases r1
            · simp
            · simpa using ih
        · cases h
      · cases h

/-- The elements of two arrays, compared one behind the other. -/
def eqElems (d : Nat) (e : TypeId) (n : Nat) (X Y : Array Value) : Nat → Nat → Sem Bool
  | 0, _ => pure true
  | k + 1, i => do
    let a ← part e X (i * n)
    let b ← part e Y (i * n)
    let r ← Op.equalIn d e a b
    if (!r) = true then pure false else eqElems d e n X Y k (i + 1)

theorem run_equalIn_array {d len n : Nat} {t e : TypeId} {X Y : Array Value} (ht : P.underlying t = some (.array len e)) (hn : szOf P e = some n) :
    (Op.equalIn (d + 1) t (.agg X) (.agg Y)).run P w = (eqElems d e n X Y len 0).run P w := by
  simp only [Op.equalIn, Sem.run_bind, run_und ht, Result.andThen_ok, run_size hn]
  rw [Std.Legacy.Range.forIn_eq_forIn_range']
  simp only [Std.Legacy.Range.size, Nat.sub_zero, Nat.add_sub_cancel, Nat.div_one]
  generalize 0 = i
  clear ht
  induction len generalizing i w with
  | zero => simp [eqElems]
  | succ k ih =>
    simp only [List.range'_succ, List.forIn_cons, eqElems, Sem.run_bind]
    generalize (part e X (i * n)).run P w = r1
    cases r1 with
    | halt x w1 => simp [Result.andThen]
    | ok a w1 =>
      simp only [Result.andThen_ok]
      generalize (part e Y (i * n)).run P w1 = r2
      cases r2 with
      | halt x w1 => simp [Result.andThen]
      | ok b w2 =>
        simp only [Result.andThen_ok]
        generalize (Op.equalIn d e a b).run P w2 = r3
        cases r3 with
        | halt x w1 => simp [Result.andThen]
        | ok r w3 =>
          cases r
          · simp
          · simp only [Result.andThen_ok, Bool.not_true, Bool.false_eq_true, if_false, Sem.run_pure]
            exact ih (i + 1)

theorem eqElems_ok {d n : Nat} {e : TypeId} {ks : List SK} (hE : EqAt P w d e ks) (hb : ∃ b, isAggT P e = some b ∧ (b = false → ks.length = 1)) (hn : szOf P e = some n) (hl : ks.length = n) (X Y : Array Value) :
    ∀ (k i : Nat) (r : Bool), PairEq (List.replicate k ks).flatten (X.toList.drop (i * n)) (Y.toList.drop (i * n)) r → (eqElems d e n X Y k i).run P w = .ok r w
  | 0, i, r, hp => by
    simp only [List.replicate_zero, List.flatten_nil] at hp
    cases hx : X.toList.drop (i * n) with
    | cons a l => rw [hx] at hp; exact hp.elim
    | nil => cases hy : Y.toList.drop (i * n) with
      | cons a l => rw [hx, hy] at hp; exact hp.elim
      | nil => rw [hx, hy] at hp; simp only [PairEq] at hp; subst hp; simp [eqElems]
  | k + 1, i, r, hp => by
    simp only [List.replicate_succ, List.flatten_cons] at hp
    obtain ⟨r1, r2, p1, p2, rfl⟩ := PairEq.split ks hp
    rw [hl] at p1 p2
    rw [List.drop_drop, List.drop_drop, show i * n + n = (i + 1) * n from by rw [Nat.succ_mul]] at p2
    obtain ⟨a, b, e1, e2, e3⟩ := eq_part hE hb hn hl rfl rfl p1
    have ih := eqElems_ok hE hb hn hl X Y k (i + 1) r2 p2
    simp only [eqElems, Sem.run_bind, e1, e2, e3, Result.andThen_ok, Sem.run_ite]
    cases r1
    · simp
    · simpa using ih

theorem equalIn_ok : ∀ (n : Nat) (t : TypeId) (ks : List SK) (d : Nat), sksOf P n t = some ks → n ≤ d → EqAt P w d t ks
  | 0, t, ks, d, h, _ => by simp [sksOf] at h
  | n + 1, t, ks, d, h, hd => by
    obtain ⟨d, rfl⟩ : ∃ m, d = m + 1 := ⟨d - 1, by omega⟩
    simp only [sksOf] at h
    have agg0 : ∀ u, P.underlying t = some u → isAggT P t = some (match u with | .struct _ | .array _ _ => true | _ => false) := by
      intro u hu; unfold isAggT; rw [hu]; cases u <;> rfl
    split at h <;> rename_i hu
    · cases h
      refine ⟨fun ha => (by rw [agg0 _ hu] at ha; cases ha), fun _ x y r hp => ?_⟩
      obtain ⟨a, b, hs, hb, rfl⟩ := hp
      simp only [PairEq] at hb; subst hb
      cases x <;> cases y <;> simp only [Sc] at hs
      obtain ⟨rfl, rfl⟩ := hs
      rw [run_equalIn_int w d t _ _ _ _ hu]; simp
    · cases h
      refine ⟨fun ha => (by rw [agg0 _ hu] at ha; cases ha), fun _ x y r hp => ?_⟩
      obtain ⟨a, b, hs, hb, rfl⟩ := hp
      simp only [PairEq] at hb; subst hb
      cases x <;> cases y <;> simp only [Sc] at hs
      subst hs
      rw [run_equalIn_string w d t _ _ hu]; simp
    · cases h
      refine ⟨fun ha => (by rw [agg0 _ hu] at ha; cases ha), fun _ x y r hp => ?_⟩
      obtain ⟨a, b, hs, hb, rfl⟩ := hp
      simp only [PairEq] at hb; subst hb
      cases x <;> cases y <;> simp only [Sc] at hs
      subst hs
      rw [run_equalIn_bool' w d t _ _ hu]; simp
    · rename_i fs
      split at h
      · cases h
      · rename_i hst
        refine ⟨fun _ X Y r hp => ?_, fun ha => by rw [agg0 _ hu] at ha; cases ha⟩
        have hf : P.fieldsOf t = fs := by unfold Program.fieldsOf; rw [hu]
        rw [run_equalIn_struct w d t X Y (by rw [hf]; exact hu) (by simpa using hst), hf]
        exact eqFields_ok (fun t' ks' h' => ⟨equalIn_ok n t' ks' d h' (by omega), sks_agg h'⟩) X Y fs.toList 0 ks r h (by simpa using hp)
    · rename_i k e
      split at h
      · rename_i k1 sz h1 h2
        split at h
        · rename_i hl
          cases h
          refine ⟨fun _ X Y r hp => ?_, fun ha => by rw [agg0 _ hu] at ha; cases ha⟩
          rw [run_equalIn_array hu h2]
          exact eqElems_ok (equalIn_ok n e k1 d h1 (by omega)) (sks_agg h1) h2 hl X Y k 0 r (by simpa using hp)
        · cases h
      · cases h
    · cases h

theorem skEq_ok {ro : Nat → Prop} {k : SK} {x y : Dat} {a b : Value} {r : Bool} (h : skEq k x y = some r) (hx : VD w ro x a) (hy : VD w ro y b) : Sc k a b r := by
  unfold skEq at h
  split at h
  · split at h
    · rename_i hk
      cases h
      have := kEq_iff.1 hk; subst this
      rw [hx.int_inv, hy.int_inv]
      exact ⟨rfl, iEq_eq _ _⟩
    · cases h
  · cases h
    obtain ⟨u, rfl, rfl⟩ := hx.str_inv
    obtain ⟨v, rfl, rfl⟩ := hy.str_inv
    exact strEq_bytes _ _
  · cases h
    rw [hx.bool_inv, hy.bool_inv]; rfl
  · cases h

theorem aggEq_ok {ro : Nat → Prop} : ∀ (ks : List SK) (xs ys : List Dat) (as bs : List Value) (r : Bool), aggEq ks xs ys = some r → All2 (VD w ro) xs as → All2 (VD w ro) ys bs → PairEq ks as bs r
  | [], [], [], as, bs, r, h, h1, h2 => by
    simp only [aggEq, Option.some.injEq] at h; subst h
    cases h1.nil_inv; cases h2.nil_inv; rfl
  | k :: ks, x :: xs, y :: ys, as, bs, r, h, h1, h2 => by
    obtain ⟨a, as, rfl, ha, h1⟩ := h1.cons_inv
    obtain ⟨b, bs, rfl, hb, h2⟩ := h2.cons_inv
    simp only [aggEq] at h
    split at h
    · rename_i r1 r2 e1 e2
      cases h
      exact ⟨r1, r2, skEq_ok e1 ha hb, aggEq_ok ks xs ys as bs r2 e2 h1 h2, rfl⟩
    · cases h
  | [], _ :: _, _, _, _, _, h, _, _ => by simp [aggEq] at h
  | [], [], _ :: _, _, _, _, h, _, _ => by simp [aggEq] at h
  | _ :: _, [], _, _, _, _, h, _, _ => by simp [aggEq] at h
  | _ :: _, _ :: _, [], _, _, _, h, _, _ => by simp [aggEq] at h

end
end Go.Rf
