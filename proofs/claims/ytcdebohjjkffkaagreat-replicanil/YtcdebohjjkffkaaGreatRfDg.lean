/- Regions whose order is open do what the machine says: effects, and the whole. -/
import Derived.Test.YtcdebohjjkffkaaGreatRfDf
namespace Go.Rf
set_option linter.unusedVariables false
set_option linter.unusedSimpArgs false
open Go

section
variable {P : Program} {N : Nat} {G : Option Nat} {ops : Array Oper} {F : Fo} {ρ0 : Pl} {S0 : St} {w0 : World} {L : List DOp} {base : Nat} {slots0 : PM AVal} {fr0 : Fr} {a0 : Act}
variable {pre : List DOp} {D : Dr} {val : Nat → AVal} {B Dn : Nat → Bool} {ρ : Pl} {a : Act} {w : World}

theorem gA_congr {val val' : Nat → AVal} {Dn A : Nat → Bool} (h : ∀ i, A i = true → val' i = val i) : gA val' Dn A = gA val Dn A := by
  funext i
  unfold gA
  split
  · rename_i hA; rw [h i hA]
  · rfl

set_option maxHeartbeats 1000000 in
theorem eff_step {call : CallT Prop} (hcall : CallSound P call) (hL : LOk P N ops L) (hI : Inv P N F ρ0 S0 w0 L base slots0 fr0 a0 pre D val B Dn ρ a w) {rest : List DOp} {x : DOp} (hLe : L = pre ++ x :: rest) (hxd : Dn x.idx = false)
    (hax : ∀ i, x.op.anc.testBit i = true → Dn i = true) (hBx : ∀ i, B i = true → x.op.anc.testBit i = true) (hxe : x.op.isEff = true) (hxw : wanted D.fr.slots x.op.guard ≠ some false)
    (hf0 : FrR F ρ0 S0 w0 P N G fr0 a0) (hs0 : slots0 = fr0.slots) {K0 : AExit → Fr → St → Prop} {K : Act → World → Prop} {Q : Exit → Act → World → Prop} (hQ : PostOk F ρ0 S0 w0 P N G K0 Q)
    (h : evDraw badP allP call base L (x :: rest) D K0)
    (hK : ∀ ρ' a' w' pre' rest' D' val', L = pre' ++ rest' → (rest' = [] ∨ ∃ e r, rest' = e :: r ∧ e.op.isEff = true ∧ wanted D'.fr.slots e.op.guard ≠ some false) → (∀ y ∈ rest', y ∈ rest) →
      evDraw badP allP call base L rest' D' K0 → Inv P N F ρ0 S0 w0 L base slots0 fr0 a0 pre' D' val' (fun i => i == x.idx || x.op.anc.testBit i) (orN Dn x.idx) ρ' a' w' → K a' w') :
    wpOpIn (fence G) 0 P ops Q x.idx K a w := by
  have hxL : x ∈ L := by rw [hLe]; simp
  obtain ⟨o, ho, hco⟩ := hL.of x hxL
  obtain ⟨c1, c2, c3, c4, c5⟩ := compOper_inv hco
  have hdl := dstOk_lt c1
  rw [← c3] at hdl
  have hxlt : x.idx < L.length := by rw [hL.len]; exact hL.lt hxL
  have hdcA0 : DC L x.op.anc.testBit := fun y hy hA i hi => hL.anc_trans hxL hy hA hi
  have hr0 := hI.rel x.op.anc.testBit hdcA0 hax hBx
  have lk0 : ∀ t ∈ x.op.named, (wr (gA val Dn x.op.anc.testBit) L slots0).get t = D.fr.slots.get t := fun t ht => by
    rw [hI.ev.slots]; exact looks_same hL hLe hI.dc hxd hax (fun _ h => h) ht
  simp only [evDraw] at h
  split at h
  · rename_i hw; exact absurd hw hxw
  · rename_i hw
    have hwant : Region.wanted o (yielded ops a.tmps) = true := wanted_ok hr0.s c5 (by rw [wanted_same lk0]; exact hw)
    unfold wpOpIn
    rw [ho]
    simp only [hwant, if_true]
    split at h
    · rename_i hop; simp [AOper.isEff, hop] at hxe
    · rename_i hop; simp [AOper.isEff, hop] at hxe
    · rename_i eo hop
      have he : compE P o.op = some eo ∨ eo = .stop := by
        rcases compOp_inv c2 with ⟨q', e, hq⟩ | ⟨m, e, hm⟩ | ⟨ee, e, he⟩ | ⟨e, _⟩ | ⟨c, t, as, e, _⟩ <;> rw [hop] at e <;> cases e
        exact he
      rcases he with he | rfl
      · rw [← evE_congr (rd := rdS (wr (gA val Dn x.op.anc.testBit) L slots0)) (fun y hy => rd_same lk0 y (by rw [hop]; exact hy))] at h
        have hfn : (withObjs D.S x.op.anc.testBit D.made).floor ≤ (withObjs D.S x.op.anc.testBit D.made).next := by
          rw [(withObjs_next _ _ _).1, (withObjs_next _ _ _).2]
          have := hI.nx; have := hI.fl; omega
        refine evE_ok hcall hr0.r hfn hr0.s he h ?_ ?_
        · intro v u S' ρ' w' hR' hE' hv hdr
          obtain ⟨D1, hev1, e1, e2, hEv1⟩ := hI.ev.eff hL hLe hxe hBx hdr
          have hBrest : ∀ y ∈ rest, (fun i => i == x.idx || x.op.anc.testBit i) y.idx = false := by
            intro y hy
            simp only [Bool.or_eq_false_iff, beq_eq_false_iff_ne]
            refine ⟨fun e => ?_, hL.not_anc hLe (.inr hy)⟩
            obtain ⟨q1, q2, rfl⟩ := List.append_of_mem hy
            exact hL.dup (pre ++ x :: q1) y q2 (by rw [hLe]; simp) x (by simp) e.symm
          obtain ⟨pre', rest', D', val', m1, m2, m3, m4, m5, m6, m7, more, m8, m9⟩ := hEv1.run hL rest (pre ++ [x]) D1 _ (by rw [hLe]; simp) hBrest hev1
          rw [← c3]
          refine hK (PB ρ ρ' base L.length x.op.anc.testBit) _ _ pre' rest' D' val' m1 m2 m7 m4 ?_
          have hnone : ρ (base + x.idx) = none := by
            cases hb : ρ (base + x.idx) with
            | none => rfl
            | some p => have := hI.born x.idx hxlt (by rw [hb]; rfl); rw [hxd] at this; cases this
          have hDS : D'.S = S' := m6.trans e1
          refine ⟨m3, fun i hi => ?_, dc_or hI.dc hL hxL hax, fun i hi => ?_, ?_, fun j hj hb => ?_, ?_, ?_, hI.rs, ?_, (put_defers _ _ _).trans hI.df, ?_⟩
          · rcases orN_true.1 hi with h | h
            · obtain ⟨y, h1, h2⟩ := hI.pre i h
              exact ⟨y, (m5 y (by simp [h1])).1, h2⟩
            · exact ⟨x, (m5 x (by simp)).1, h.symm⟩
          · simp only [Bool.or_eq_true, beq_iff_eq] at hi
            rcases hi with h | h
            · exact orN_true.2 (.inr h)
            · exact orN_true.2 (.inl (hax i h))
          · intro y hy hyB i hi
            simp only [Bool.or_eq_true, beq_iff_eq] at hyB ⊢
            rcases hyB with h | h
            · rw [hL.eq_of_idx hy hxL h] at hi; exact .inr hi
            · exact .inr (hL.anc_trans hxL hy h hi)
          · by_cases hh : Hid base L.length x.op.anc.testBit (base + j)
            · rw [PB_hid hh] at hb; exact orN_true.2 (.inl (hI.born j hj hb))
            · refine orN_true.2 (.inl (hax j ?_))
              cases hA : x.op.anc.testBit j with
              | true => rfl
              | false => exact absurd ⟨j, hj, hA, rfl⟩ hh
          · rw [hDS]
            have := hE'.next
            rw [(withObjs_next _ _ _).1] at this
            exact Nat.le_trans hI.nx this
          · rw [hDS, hE'.flr, (withObjs_next _ _ _).2]; exact hI.fl
          · rw [Act.put_none_size]; exact hI.sz
          · intro A' hdc' hsub hBA
            have hxA : A' x.idx = true := hBA _ (by simp)
            have hA0A' : ∀ i, x.op.anc.testBit i = true → A' i = true := fun i hi => hBA _ (by simp [hi])
            obtain ⟨k1, k2⟩ := dc_and hL hI.dc hxd hdc' hsub
            have hnx : ∀ i, x.op.anc.testBit i = true → andN A' x.idx i = true := fun i hi =>
              andN_true.2 ⟨hA0A' i hi, fun e => by have := hax i hi; rw [e, hxd] at this; cases this⟩
            have hBs : ∀ i, B i = true → andN A' x.idx i = true := fun i hi => hnx i (hBx i hi)
            have hr := hI.rel _ k1 k2 hBs
            have hEK : EffK P F ρ ρ' base L.length (andN A' x.idx) x.op.anc.testBit A' D.S S' D.made x.idx w w' := by
              refine ⟨hr0.r, hr.r, hR', hE', hnx, fun i hi => ?_, fun i hi => (andN_true.1 hi).1, by simp [andN], fun m hm e => ?_, hnone, hI.ev.nodup, fun m hm => ?_, hI.nx, hI.fl, hI.rs⟩
              · by_cases e : i = x.idx
                · exact .inr e
                · exact .inl (andN_true.2 ⟨hi, e⟩)
              · obtain ⟨_, _, y, e3, e4, _⟩ := hI.ev.made m hm
                exact hL.dup pre x rest hLe y e3 (e4.trans e)
              · obtain ⟨e0, _, y, e3, e4, _⟩ := hI.ev.made m hm
                exact ⟨e0, by rw [← e4, hL.len]; exact hL.lt (by rw [hLe]; simp [e3])⟩
            have hw' : withObjs D'.S A' D'.made = withObjs S' A' (leftM x.op.anc.testBit D.made) := by
              rw [hDS, m8, e2]
              have key : ∀ (more : List Made) (T : St), (∀ m ∈ more, A' m.idx = false) → withObjs T A' (more ++ madeLeft x.op.anc D.made) = withObjs T A' (madeLeft x.op.anc D.made) := by
                intro more
                induction more with
                | nil => intro T _; rfl
                | cons m r ih =>
                  intro T hm
                  simp only [List.cons_append, withObjs, hm m (by simp)]
                  exact ih T fun m' hm' => hm m' (by simp [hm'])
              refine (key more S' fun m hm => ?_).trans rfl
              obtain ⟨y, y1, y2⟩ := m9 m hm
              cases hA : A' m.idx with
              | false => rfl
              | true =>
                exfalso
                rcases orN_true.1 (hsub _ hA) with h | h
                · obtain ⟨z, z1, z2⟩ := hI.pre _ h
                  obtain ⟨q1, q2, rfl⟩ := List.append_of_mem y1
                  exact hL.dup (pre ++ x :: q1) y q2 (by rw [hLe]; simp) z (by simp [z1]) (by rw [z2, y2])
                · have := hBrest y y1
                  simp only [Bool.or_eq_false_iff, beq_eq_false_iff_ne] at this
                  exact this.1 (y2.trans h)
            have hval : ∀ i, A' i = true → val' i = upd val x.idx v i := by
              intro i hi
              rcases orN_true.1 (hsub i hi) with h | h
              · obtain ⟨z, z1, z2⟩ := hI.pre _ h
                have := (m5 z (by simp [z1])).2
                rw [z2] at this; exact this
              · have := (m5 x (by simp)).2
                rw [h]; exact this
            have hvA : ∀ i, andN A' x.idx i = true → upd val x.idx v i = val i := fun i hi => upd_ne val v (andN_true.1 hi).2
            refine ⟨?_, ?_, ?_⟩
            · rw [hw']; exact hEK.rr
            · rw [hw']; exact hr.e.trans hEK.ext
            · rw [hw', gA_congr hval]
              refine SlR.congr (wr_or (val := upd val x.idx v) (slots0 := slots0) hL hLe hI.dc hxd hsub) ?_
              rw [if_pos hxA, upd_self, gA_congr hvA]
              have h1 := hr.s.ext hEK.ext
              have h2 : SlR (FA F (PB ρ ρ' base L.length x.op.anc.testBit) base L.length A') (PA (PB ρ ρ' base L.length x.op.anc.testBit) base L.length A') (withObjs S' A' (leftM x.op.anc.testBit D.made)) w' P (wr (gA val Dn (andN A' x.idx)) L slots0) a.tmps :=
                (Tr.like (fun b hb => (hEK.FAn hb).1) fun _ => rfl).slr h1
              exact (h2.put hdl hI.sz (hEK.tr.ar hv)).1
        · intro p v S' ρ' w' hR' hE' hp hk
          have ht : Tr (FA F ρ base L.length x.op.anc.testBit) ρ' S' F ρ' S' w' := .like (fun _ h => .inl h) fun _ => rfl
          have hE := hr0.e.trans hE'
          have hfe := hf0.ext hE
          refine hQ (.panic p) _ S' ρ' w' a _ (hR'.like (fun _ h => .inl h) (fun _ h => .inl h) (fun _ => rfl) (Nat.le_refl _)) hE ⟨fun t => ?_, hI.sz, ?_, ?_⟩ ⟨v, rfl, ?_⟩ hk
          · rcases poison_get L D.fr.slots t with hb | ⟨hb, hno⟩
            · simp only [hb]; trivial
            · simp only [hb]
              rw [hI.ev.slots, wr_get_not _ _ _ fun o ho hd => absurd hd (hno o (by rw [hLe]; simp [ho]))]
              have := hr0.s t
              rw [wr_get_not _ _ _ fun o ho hd => absurd hd (hno o ho)] at this
              exact ht.ar (this.ext hE')
          · simp only; rw [hI.ev.defs, hI.df]; exact hfe.d
          · simp only; rw [hI.ev.rnd]; exact hfe.r
          · exact ht.cr hp
      · exact h.elim
    · exact h.elim
  · exact h.elim

/-- The region is done. -/
theorem draw_done (hL : LOk P N ops L) (hI : Inv P N F ρ0 S0 w0 L base slots0 fr0 a0 pre D val B Dn ρ a w) (hLe : L = pre) (hall : ∀ y ∈ L, Dn y.idx = true)
    (hf0 : FrR F ρ0 S0 w0 P N G fr0 a0) {K0 : AExit → Fr → St → Prop} {Q : Exit → Act → World → Prop} (hQ : PostOk F ρ0 S0 w0 P N G K0 Q)
    (h : K0 .normal D.fr (withObjs D.S (fun _ => true) D.made)) : Q .normal a w := by
  have hr := hI.rel Dn hI.dc (fun _ h => h) hI.bd
  have hw : withObjs D.S (fun _ => true) D.made = withObjs D.S Dn D.made := withObjs_congr _ _ fun m hm => by
    obtain ⟨_, _, y, e3, e4, _⟩ := hI.ev.made m hm
    rw [← e4, hall y (by rw [hLe]; exact e3)]
  rw [hw] at h
  have hP : PA ρ base L.length Dn = ρ := by
    funext id
    refine PA_not ?_
    rintro ⟨j, j1, j2, rfl⟩
    rw [hL.len] at j1
    obtain ⟨y, y1, y2⟩ := hL.all j j1
    rw [← y2, hall y y1] at j2; cases j2
  obtain ⟨r1, r2, r3⟩ := hr
  rw [hP] at r1 r2 r3
  have ht : Tr (FA F ρ base L.length Dn) ρ (withObjs D.S Dn D.made) F ρ (withObjs D.S Dn D.made) w := .like (fun _ h => .inl h) fun _ => rfl
  have hfe := hf0.ext r2
  refine hQ .normal D.fr _ ρ w a .normal (r1.like (fun _ h => .inl h) (fun _ h => .inl h) (fun _ => rfl) (Nat.le_refl _)) r2 ⟨?_, hI.sz, ?_, ?_⟩ trivial h
  · rw [hI.ev.slots, ← hLe]
    have : wr (gA val Dn Dn) L slots0 = wr (fun i => some (val i)) L slots0 := wr_eq _ _ fun y hy => by
      unfold gA; rw [if_pos (hall y hy)]
    rw [← this]
    exact ht.slr r3
  · rw [hI.ev.defs, hI.df]; exact hfe.d
  · rw [hI.ev.rnd]; exact hfe.r

theorem count_step (hL : LOk P N ops L) {x : DOp} (hx : x ∈ L) (hxd : Dn x.idx = false) {f : Nat} (h : (L.filter fun y => !Dn y.idx).length ≤ f + 1) : (L.filter fun y => !orN Dn x.idx y.idx).length ≤ f := by
  obtain ⟨p, q, rfl⟩ := List.append_of_mem hx
  have hp : ∀ y ∈ p, (y.idx == x.idx) = false := fun y hy => beq_eq_false_iff_ne.2 (hL.dup p x q rfl y hy)
  have hq : ∀ y ∈ q, (y.idx == x.idx) = false := fun y hy => by
    obtain ⟨q1, q2, rfl⟩ := List.append_of_mem hy
    exact beq_eq_false_iff_ne.2 fun e => hL.dup (p ++ x :: q1) y q2 (by simp) x (by simp) e.symm
  have e1 : p.filter (fun y => !orN Dn x.idx y.idx) = p.filter (fun y => !Dn y.idx) := List.filter_congr fun y hy => by simp [orN, hp y hy]
  have e2 : q.filter (fun y => !orN Dn x.idx y.idx) = q.filter (fun y => !Dn y.idx) := List.filter_congr fun y hy => by simp [orN, hq y hy]
  rw [List.filter_append, List.filter_cons, e1, e2]
  rw [List.filter_append, List.filter_cons, hxd] at h
  simp [orN] at h ⊢
  omega

theorem draw_loop {call : CallT Prop} (hcall : CallSound P call) (hL : LOk P N ops L) (hf0 : FrR F ρ0 S0 w0 P N G fr0 a0) (hs0 : slots0 = fr0.slots) {K0 : AExit → Fr → St → Prop} {Q : Exit → Act → World → Prop} (hQ : PostOk F ρ0 S0 w0 P N G K0 Q) :
    ∀ (fuel : Nat) (pre rest : List DOp) (D : Dr) (val : Nat → AVal) (B Dn : Nat → Bool) (ρ : Pl) (a : Act) (w : World) (listed : Array Bool), L = pre ++ rest →
      (rest = [] ∨ ∃ e r, rest = e :: r ∧ e.op.isEff = true ∧ wanted D.fr.slots e.op.guard ≠ some false) → (∀ y ∈ rest, ∀ i, B i = true → y.op.anc.testBit i = true) →
      evDraw badP allP call base L rest D K0 → Inv P N F ρ0 S0 w0 L base slots0 fr0 a0 pre D val B Dn ρ a w → listed.size = ops.size → (∀ i, Dn i = listed.getD i false) →
      (L.filter fun y => !Dn y.idx).length ≤ fuel → wpAnyIn (fence G) 0 P .any ops Q fuel listed a w := by
  intro fuel
  induction fuel with
  | zero =>
    intro pre rest D val B Dn ρ a w listed hLe hhd hB hev hI hsz hl hc
    have hall : ∀ y ∈ L, Dn y.idx = true := by
      intro y hy
      have hnil := List.eq_nil_of_length_eq_zero (Nat.le_zero.1 hc)
      cases hd : Dn y.idx with
      | true => rfl
      | false =>
        have : y ∈ L.filter fun y => !Dn y.idx := by simp [hy, hd]
        rw [hnil] at this; cases this
    have hnilr : Region.ready .any ops listed = [] := by
      cases hr : Region.ready .any ops listed with
      | nil => rfl
      | cons i l =>
        exfalso
        have hi : i ∈ Region.ready .any ops listed := by rw [hr]; simp
        obtain ⟨h0, o, ho, _⟩ := mem_ready.1 hi
        have hlt : i < ops.size := (Array.getElem?_eq_some_iff.1 ho).1
        obtain ⟨y, y1, y2⟩ := hL.all i hlt
        have := hall y y1
        rw [y2, hl] at this
        have h2 : i < listed.size := by omega
        simp [h2] at h0 this
        rw [h0] at this; cases this
    refine wpAnyIn_done hnilr ?_ 0
    have hrn : rest = [] := by
      rcases hhd with h | ⟨e, r, h, _⟩
      · exact h
      · exfalso
        obtain ⟨z, z1, z2⟩ := hI.pre _ (hall e (by rw [hLe, h]; simp))
        exact hL.dup pre e r (by rw [hLe, h]) z z1 z2
    subst hrn
    rw [List.append_nil] at hLe
    exact draw_done hL hI hLe hall hf0 hQ hev
  | succ f ih =>
    intro pre rest D val B Dn ρ a w listed hLe hhd hB hev hI hsz hl hc
    by_cases hall : ∀ y ∈ L, Dn y.idx = true
    · have hc0 : (L.filter fun y => !Dn y.idx).length ≤ 0 := by
        rw [List.filter_eq_nil_iff.2 fun y hy => by simp [hall y hy]]; exact Nat.le_refl _
      have hnilr : Region.ready .any ops listed = [] := by
        cases hr : Region.ready .any ops listed with
        | nil => rfl
        | cons i l =>
          exfalso
          have hi : i ∈ Region.ready .any ops listed := by rw [hr]; simp
          obtain ⟨h0, o, ho, _⟩ := mem_ready.1 hi
          have hlt : i < ops.size := (Array.getElem?_eq_some_iff.1 ho).1
          obtain ⟨y, y1, y2⟩ := hL.all i hlt
          have := hall y y1
          rw [y2, hl] at this
          have h2 : i < listed.size := by omega
          simp [h2] at h0 this
          rw [h0] at this; cases this
      refine wpAnyIn_done hnilr ?_ (f + 1)
      have hrn : rest = [] := by
        rcases hhd with h | ⟨e, r, h, _⟩
        · exact h
        · exfalso
          obtain ⟨z, z1, z2⟩ := hI.pre _ (hall e (by rw [hLe, h]; simp))
          exact hL.dup pre e r (by rw [hLe, h]) z z1 z2
      subst hrn
      rw [List.append_nil] at hLe
      exact draw_done hL hI hLe hall hf0 hQ hev
    · have hset : ∀ y ∈ L, Dn y.idx = false → ∀ i, orN Dn y.idx i = (listed.setIfInBounds y.idx true).getD i false := by
        intro y hy hyd i
        have hlt : y.idx < listed.size := by rw [hsz]; exact hL.lt hy
        by_cases e : i = y.idx
        · subst e; simp [orN, hlt]
        · rw [getD_set_ne false (Ne.symm e), ← hl]
          simp [orN, e]
      refine ⟨fun hr => ?_, fun i hi => ?_⟩
      · -- somebody is ready
        exfalso
        have key : ∀ (q p : List DOp), L = p ++ q → (∀ y ∈ p, Dn y.idx = true) → (∃ y ∈ q, Dn y.idx = false) → False := by
          intro q
          induction q with
          | nil => intro p _ _ ⟨y, hy, _⟩; cases hy
          | cons x q ihq =>
            intro p hp hpd hex
            cases hxd : Dn x.idx with
            | true =>
              refine ihq (p ++ [x]) (by rw [hp]; simp) (fun y hy => ?_) ?_
              · rcases List.mem_append.1 hy with hy | hy
                · exact hpd y hy
                · rw [List.mem_singleton.1 hy]; exact hxd
              · obtain ⟨y, hy, hyd⟩ := hex
                rcases List.mem_cons.1 hy with rfl | hy
                · rw [hxd] at hyd; cases hyd
                · exact ⟨y, hy, hyd⟩
            | false =>
              have hxL : x ∈ L := by rw [hp]; simp
              obtain ⟨o, ho, _⟩ := hL.of x hxL
              have : x.idx ∈ Region.ready .any ops listed := by
                refine mem_ready.2 ⟨?_, o, ho, fun e he hb => ?_⟩
                · have h1 := hl x.idx
                  have hlt : x.idx < listed.size := by rw [hsz]; exact hL.lt hxL
                  rw [hxd] at h1
                  simp [hlt] at h1 ⊢
                  first | exact h1 | exact h1.symm
                · rw [← hl]
                  have hax := (hL.anc_of hxL ho e.on).2 ⟨e, he, hb, .inl rfl⟩
                  obtain ⟨y, y1, y2⟩ := hL.order p x q hp _ hax
                  rw [← y2]; exact hpd y y1
              rw [hr] at this; cases this
        refine key L [] rfl (fun _ h => nomatch h) ?_
        exact Classical.byContradiction fun h => hall fun y hy => by
          cases hd : Dn y.idx with
          | true => rfl
          | false => exact absurd ⟨y, hy, hd⟩ h
      · obtain ⟨h0, o, ho, hed⟩ := mem_ready.1 hi
        have hlt : i < ops.size := (Array.getElem?_eq_some_iff.1 ho).1
        obtain ⟨y, y1, y2⟩ := hL.all i hlt
        subst y2
        have hyd : Dn y.idx = false := by
          rw [hl]
          have : y.idx < listed.size := by omega
          simp [this] at h0 ⊢
          exact h0
        have hax : ∀ j, y.op.anc.testBit j = true → Dn j = true := by
          intro j hj
          obtain ⟨e, he, hb, hej⟩ := (hL.anc_of y1 ho j).1 hj
          have hde : Dn e.on = true := by rw [hl]; exact hed e he hb
          rcases hej with rfl | hej
          · exact hde
          · have hlt' := hL.edge _ _ ho e he hb
            obtain ⟨z, z1, z2⟩ := hL.all e.on (by omega)
            obtain ⟨oz, hoz, hcz⟩ := hL.of z z1
            refine hI.dc z z1 (by rw [z2]; exact hde) j ?_
            rw [(compOper_inv hcz).2.2.2.1, z2]; exact hej
        have hsz' : (listed.setIfInBounds y.idx true).size = ops.size := by rw [Array.size_setIfInBounds]; exact hsz
        have hcnt := count_step hL y1 hyd hc
        have hy : y ∈ pre ∨ y ∈ rest := by rw [hLe] at y1; exact List.mem_append.1 y1
        rcases hy with hy | hy
        · obtain ⟨p, q, hpq⟩ := List.append_of_mem hy
          exact quiet_step hL hI hpq hLe hyd hax fun ρ' a' w' hI' => ih pre rest D val B _ ρ' a' w' _ hLe hhd hB hev hI' hsz' (hset y y1 hyd) hcnt
        · rcases hhd with h | ⟨e, r, h, he, hew⟩
          · rw [h] at hy; cases hy
          · subst h
            have hye : y = e := by
              rcases List.mem_cons.1 hy with h | h
              · exact h
              · exfalso
                have := hax _ (hL.eff pre e r hLe he y h)
                obtain ⟨z, z1, z2⟩ := hI.pre _ this
                exact hL.dup pre e r hLe z z1 z2
            subst hye
            refine eff_step hcall hL hI hLe hyd hax (hB y (by simp)) he hew hf0 hs0 hQ hev ?_
            intro ρ' a' w' pre' rest' D' val' k1 k2 k3 k4 k5
            refine ih pre' rest' D' val' _ _ ρ' a' w' _ k1 k2 (fun z hz i hi => ?_) k4 k5 hsz' (hset y y1 hyd) hcnt
            have hzr := k3 z hz
            have hzL : z ∈ L := by rw [hLe]; simp [hzr]
            have hyz := hL.eff pre y r hLe he z hzr
            simp only [Bool.or_eq_true, beq_iff_eq] at hi
            rcases hi with h | h
            · rw [h]; exact hyz
            · exact hL.anc_trans hzL y1 hyz h

end

/-- Regions whose order is open do what the machine says. -/
theorem drawSound {P : Program} (hm : P.follows .mixedOrders = true) {call : CallT Prop} (hcall : CallSound P call) : DrawSound P call := by
  intro F ρ S w N G id ops L K Q fr a hc hR hfn hf h hQ
  have hL := compDraw_ok hc
  refine wpIn_region_any hm ?_
  have hR1 : R F ρ S { w with drawn := w.drawn + 1 } P := hR.same .rfl'
  have hE1 : Ext ρ S w ρ S { w with drawn := w.drawn + 1 } := Ext.same .rfl'
  have hf1 := hf.ext hE1
  have hQ1 := hQ.ext hE1
  have hnone : ∀ j, ρ (S.next + j) = none := fun j => by
    cases hb : ρ (S.next + j) with
    | none => rfl
    | some p => have := hR.lt _ (by rw [hb]; rfl); omega
  have hE0 : Ev S.next fr.slots fr [] ⟨fr, { S with next := S.next + L.length }, [], []⟩ (fun _ => .bad) (fun _ => false) :=
    ⟨rfl, rfl, rfl, fun _ h => (nomatch h), List.Pairwise.nil, fun p x q h => by cases p <;> cases h⟩
  obtain ⟨pre', rest', D', val', m1, m2, m3, m4, m5, m6, m7, more, m8, m9⟩ := hE0.run hL L [] _ _ rfl (fun _ _ => rfl) h
  refine draw_loop hcall hL hf1 rfl hQ1 ops.size pre' rest' D' val' (fun _ => false) (fun _ => false) ρ a _ _ m1 m2 (fun _ _ _ h => nomatch h) m4 ?_ (by simp) (fun i => ?_) ?_
  · refine ⟨m3, fun _ h => (nomatch h), fun _ _ h => (nomatch h), fun _ h => (nomatch h), fun _ _ h => (nomatch h), fun j _ hb => ?_, ?_, ?_, fun id hi => (hR.res id hi).2, hf.n, rfl, ?_⟩
    · rw [hnone j] at hb; cases hb
    · rw [m6]; exact Nat.le_refl _
    · rw [m6]; exact hfn
    · intro A hdc hsub _
      have hA : ∀ i, A i = false := fun i => by
        cases h : A i with
        | false => rfl
        | true => exact nomatch hsub i h
      have hP : PA ρ S.next L.length A = ρ := by
        funext id
        by_cases hh : Hid S.next L.length A id
        · rw [PA_hid hh]
          obtain ⟨j, _, _, rfl⟩ := hh
          rw [hnone j]
        · exact PA_not hh
      have hW : withObjs D'.S A D'.made = { S with next := S.next + L.length } := by
        rw [m6]
        have key : ∀ (l : List Made) (T : St), withObjs T A l = T := by
          intro l
          induction l with
          | nil => intro T; rfl
          | cons m r ih => intro T; simp only [withObjs, hA]; exact ih T
        exact key _ _
      have hF : ∀ b, FA F ρ S.next L.length A b → F b := by
        intro b hb
        rcases hb with hb | ⟨j, _, _, hs, _⟩
        · exact hb
        · rw [hnone j] at hs; cases hs
      have hR2 : R (FA F ρ S.next L.length A) ρ { S with next := S.next + L.length } { w with drawn := w.drawn + 1 } P := by
        refine hR1.tr (.like hF fun _ => rfl) (fun id hb => Nat.lt_of_lt_of_le (hR.lt id hb) (Nat.le_add_right _ _))
          (fun id o ho hb => by have := (hR.ob id o ho).1; rw [hb] at this; cases this) (fun id id' o o' h1 _ hb => by have := (hR.ob id o h1).1; rw [hb] at this; cases this) hF ?_
        intro id hi
        rcases hi with hi | ⟨j, h1, _, rfl⟩
        · exact ⟨(hR.res id hi).1, Nat.lt_of_lt_of_le (hR.res id hi).2 (Nat.le_add_right _ _)⟩
        · exact ⟨hnone j, by show _ < S.next + L.length; omega⟩
      refine ⟨?_, ?_, ?_⟩
      · rw [hP, hW]; exact hR2
      · rw [hP, hW]
        exact ⟨Nat.le_refl _, Nat.le_add_right _ _, fun _ h => h, fun b _ hno => ⟨hno, rfl⟩, fun id o' _ ho => ⟨o', ho, o'.kin_refl, Nat.le_refl _, fun _ => ⟨rfl, fun _ h => h⟩⟩, rfl, fun _ _ => ⟨rfl, rfl, fun _ _ => rfl⟩, rfl, rfl⟩
      · rw [hP, hW]
        refine (Tr.like (S := S) hF fun _ => rfl).slr ?_
        rw [wr_none _ _ fun o _ => by simp [gA, hA]]
        exact hf1.sl
  · by_cases hi : i < ops.size
    · simp [hi]
    · simp [hi]
  · rw [← hL.len]; exact List.length_filter_le _ _

/-- Calls do what the machine says. -/
theorem evCall_sound {P : Program} (hm : P.follows .mixedOrders = true) {A : FuncId → Option AFunc} (hA : TabOk P A) (LF n : Nat) : CallSound P (evCall badP allP A LF n) :=
  evCall_ok hA (fun _ h => drawSound hm h) LF n

end Go.Rf
