/- The steps of walks over strings and maps. -/
import Derived.Test.YtcdebohjjkffkaaGreatRfI
import Derived.Lib.OthersKept
namespace Go.Rf
set_option linter.unusedVariables false
set_option linter.unusedSimpArgs false
open Go

section
variable {F : Fo} {ρ : Pl} {S : St} {w w' w1 : World} {P : Program}

theorem bytes_back (b : ByteArray) : (⟨((bytesOf b).map UInt8.ofNat).toArray⟩ : ByteArray) = b := by
  have : (bytesOf b).map UInt8.ofNat = b.data.toList := by
    unfold bytesOf
    rw [List.map_map]
    conv => rhs; rw [← List.map_id b.data.toList]
    apply List.map_congr_left
    intro x _
    simp
  rw [this]

theorem evNextS_ok (hR : R F ρ S w P) {x v : AVal} {xv : Value} {S' : St} {ty : TypeId} (h : evNextS S x = some (v, S')) (hx : AR F ρ S w P x xv) :
    ∃ u w', (Instr.next xv true ty).run P w = .ok u w' ∧ R F ρ S' w' P ∧ Ext ρ S w ρ S' w' ∧ AR F ρ S' w' P v u := by
  unfold evNextS at h
  split at h
  · rename_i id hc
    obtain ⟨_, r, rfl, hr⟩ := hx.cell0 hc
    split at h
    · rename_i s pos hg
      have hr := hr _ hg rfl
      subst hr
      obtain ⟨b, rfl, g1⟩ := (hR.ob _ _ hg).2
      split at h
      · rename_i hlt
        rw [blt_iff, bytesOf_length] at hlt
        split at h
        · rename_i c wd hfl hdec
          rw [ble_iff] at hfl
          cases h
          rw [bytes_back] at hdec
          obtain ⟨q1, q2⟩ := obj_turn (o := .stringIter b (pos + wd)) (ob' := .sit (bytesOf b) (pos + wd)) hR hg rfl rfl trivial (Nat.le_refl _) hfl g1 (by simp) (fun hE hb => ⟨b, rfl, hb⟩)
          refine ⟨_, _, Lib.run_next_any_at w _ b pos ty g1 hlt, ?_, ?_, ?_⟩
          · rw [hdec]; exact q1
          · rw [hdec]; exact q2
          · rw [hdec]; exact ⟨_, rfl, VD.bool true, VD.int _ _, VD.int _ _, trivial⟩
        · cases h
      · rename_i hlt
        have hlt : ¬ pos < b.size := by
          intro hh
          rw [← bytesOf_length, ← blt_iff] at hh
          rw [hh] at hlt; cases hlt
        cases h
        exact ⟨_, w, Lib.run_next_end_at w _ b pos ty g1 hlt, hR, Ext.refl _ _ _, _, rfl, VD.bool false, trivial⟩
    · cases h
  · cases h

theorem All2.filter {α β : Type} {r : α → β → Prop} {p : α → Bool} {q : β → Bool} (h : ∀ a b, r a b → p a = q b) : ∀ {x : List α} {y : List β}, All2 r x y → All2 r (x.filter p) (y.filter q)
  | [], [], _ => trivial
  | a :: x, b :: y, ⟨h1, h2⟩ => by
    have hh := h a b h1
    simp only [List.filter_cons, hh]
    split
    · exact ⟨h1, All2.filter h h2⟩
    · exact All2.filter h h2

theorem All2.isEmpty {α β : Type} {r : α → β → Prop} : ∀ {x : List α} {y : List β}, All2 r x y → x.isEmpty = y.isEmpty
  | [], [], _ => rfl
  | _ :: _, _ :: _, _ => rfl

theorem All2.any {α β : Type} {r : α → β → Prop} {p : α → Bool} {q : β → Bool} (h : ∀ a b, r a b → p a = q b) : ∀ {x : List α} {y : List β}, All2 r x y → x.any p = y.any q
  | [], [], _ => rfl
  | a :: x, b :: y, ⟨h1, h2⟩ => by simp only [List.any_cons, h a b h1, All2.any h h2]

/-- A candidate and what it stands for. -/
def CandR (F : Fo) (ρ : Pl) (S : St) (w : World) (P : Program) (k : KeyK) : Option AEnt → Option MapEntry → Prop
  | none, none => True
  | some e, some m => EntR F ρ S w P k e m
  | _, _ => False

def candidates (since : Nat) (seen : Array Nat) (es : Array MapEntry) : Array (Option MapEntry) :=
  (if ((es.filter fun e => !seen.contains e.born).filter (·.born < since)).isEmpty then #[none] else #[]) ++
    (((es.filter fun e => !seen.contains e.born).filter (·.born < since)) ++ ((es.filter fun e => !seen.contains e.born).filter (·.born ≥ since))).map some

theorem coming_ok {k : KeyK} {since : Nat} {seen : Array Nat} {es : List AEnt} {ms : Array MapEntry} (h : All2 (EntR F ρ S w P k) es ms.toList) :
    All2 (CandR F ρ S w P k) (coming since seen.toList es) (candidates since seen ms).toList := by
  have hl : All2 (EntR F ρ S w P k) (unseen seen.toList es) (ms.filter fun e => !seen.contains e.born).toList := by
    rw [Array.toList_filter]
    refine h.filter fun a b hab => ?_
    rw [hab.1, Array.contains_eq_any_beq]
    congr 1
    rw [← Array.any_toList]
    congr 1
    funext j
    rw [Bool.eq_iff_iff, beq_iff, beq_iff_eq]
  have ho : All2 (EntR F ρ S w P k) ((unseen seen.toList es).filter fun e => Nat.blt e.born since) ((ms.filter fun e => !seen.contains e.born).filter (·.born < since)).toList := by
    rw [Array.toList_filter]
    refine hl.filter fun a b hab => ?_
    rw [hab.1, Bool.eq_iff_iff, blt_iff, decide_eq_true_eq]
  have hn : All2 (EntR F ρ S w P k) ((unseen seen.toList es).filter fun e => Nat.ble since e.born) ((ms.filter fun e => !seen.contains e.born).filter (·.born ≥ since)).toList := by
    rw [Array.toList_filter]
    refine hl.filter fun a b hab => ?_
    rw [hab.1, Bool.eq_iff_iff, ble_iff, decide_eq_true_eq]
  have hsome : All2 (CandR F ρ S w P k) ((((unseen seen.toList es).filter fun e => Nat.blt e.born since) ++ ((unseen seen.toList es).filter fun e => Nat.ble since e.born)).map some)
      ((((ms.filter fun e => !seen.contains e.born).filter (·.born < since)) ++ ((ms.filter fun e => !seen.contains e.born).filter (·.born ≥ since))).map some).toList := by
    rw [Array.toList_map, Array.toList_append, All2.map_left, All2.map_right]
    exact ho.append hn
  have hemp := ho.isEmpty
  unfold coming candidates
  rw [Array.toList_append]
  refine All2.append ?_ hsome
  cases hc : (unseen seen.toList es).filter (fun e => Nat.blt e.born since) with
  | nil =>
    rw [hc] at hemp
    have : ((ms.filter fun e => !seen.contains e.born).filter (·.born < since)).isEmpty = true := by rw [← Array.isEmpty_toList, ← hemp]; rfl
    simp only [this, if_true]
    exact ⟨trivial, trivial⟩
  | cons a l =>
    rw [hc] at hemp
    have : ((ms.filter fun e => !seen.contains e.born).filter (·.born < since)).isEmpty = false := by rw [← Array.isEmpty_toList, ← hemp]; rfl
    simp only [this, Bool.false_eq_true, if_false]
    exact trivial

theorem candidates_pos (since : Nat) (seen : Array Nat) (es : Array MapEntry) : 0 < (candidates since seen es).size := by
  unfold candidates
  split
  · simp; omega
  · rename_i h
    rw [Array.size_append, Array.size_map, Array.size_append]
    have : 0 < ((es.filter fun e => !seen.contains e.born).filter (·.born < since)).size := by
      rw [Array.isEmpty_iff_size_eq_zero] at h
      omega
    omega

/-- What is asked of a walk's end. -/
abbrev allP (n : Nat) (f : Nat → Prop) : Prop := ∀ i, i < n → f i
abbrev badP : String → Prop := fun _ => False

theorem run_choose (q : Question) (w : World) : ∃ w', Alike w w' ∧ (choose q).run P w = .ok (if q.forced then 0 else q.cut (w.tape w.drawn q)) w' := by
  by_cases h : q.forced = true
  · exact ⟨w, .rfl', by simp [choose, Sem.run, h]⟩
  · exact ⟨{ w with drawn := w.drawn + 1 }, .rfl', by simp [choose, Sem.run, h]⟩

theorem stepTo_ok (hR : R F ρ S w1 P) (hw : Alike w w1) {k : KeyK} {id m since clock stepped mb : Nat} {seen : Array Nat} {K : AVal → St → Prop} {c : Option AEnt} {mc : Option MapEntry}
    (hid : S.get id = some (.mit (some m) since seen.toList stepped)) (hfl : S.floor ≤ id) (hb : w.heap[(ρ.at id).1]? = some (.mapIter (some mb) since seen stepped)) (hmb : (ρ m).isSome = true ∧ ∀ o, S.get m = some o → o.tag = 1 → some mb = some (ρ.at m).1)
    (hc : CandR F ρ S w P k c mc) (h : stepTo badP k S id m since clock seen.toList K c) :
    ∃ u w' v S', (match mc with
      | some e => (do setObj (ρ.at id).1 (.mapIter (some mb) since (seen.push e.born) clock); pure (.tuple #[.bool true, e.key, e.val]) : Sem Value)
      | none => pure (.tuple #[.bool false])).run P w1 = .ok u w' ∧ R F ρ S' w' P ∧ Ext ρ S w1 ρ S' w' ∧ AR F ρ S' w' P v u ∧ K v S' := by
  cases c with
  | none =>
    cases mc with
    | some _ => exact hc.elim
    | none => exact ⟨.tuple #[.bool false], w1, .tup [.one (dc (.bool false))], S, rfl, hR, Ext.refl _ _ _, ⟨_, rfl, VD.bool false, trivial⟩, h⟩
  | some e =>
    cases mc with
    | none => exact hc.elim
    | some me =>
      obtain ⟨h1, h2, h3⟩ := hc
      obtain ⟨kv, h4, h5⟩ := keyVl_ok (F := F) (ρ := ρ) (S := S) (w := w) (P := P) h2
      simp only [stepTo, h4] at h
      have hb1 : w1.heap[(ρ.at id).1]? = some (.mapIter (some mb) since seen stepped) := by rw [hw.heap]; exact hb
      obtain ⟨q1, q2⟩ := obj_turn (o := .mapIter (some mb) since (seen.push me.born) clock) (ob' := .mit (some m) since (seen.toList ++ [e.born]) clock) hR hid rfl rfl trivial (Nat.le_refl _) hfl hb1 (by simp)
        (fun hE hbn => ⟨seen.push me.born, some mb, by simp [h1], hbn, (fun h => nomatch h), fun i hi => by
          cases hi
          refine ⟨hmb.1, fun o ho ht => ?_⟩
          obtain ⟨o', h6, h7, _⟩ := hE.tagged hmb.1 ho (by omega)
          exact hmb.2 o' h6 (by omega)⟩)
      have hE2 : Ext ρ S w ρ S w1 := Ext.same hw
      refine ⟨.tuple #[.bool true, me.key, me.val], _, .tup [.one (dc (.bool true)), kv, e.val], _, ?_, q1, q2, ⟨_, rfl, VD.bool true, (h5.ext hE2).ext q2, (h3.ext hE2).ext q2, trivial⟩, h⟩
      simp [run_setObj _ hb1]

theorem evNextM_ok (hR : R F ρ S w P) {x : AVal} {xv : Value} {ty : TypeId} {K : AVal → St → Prop} (h : evNextM badP allP S x K) (hx : AR F ρ S w P x xv) :
    ∃ u w' v S', (Instr.next xv false ty).run P w = .ok u w' ∧ R F ρ S' w' P ∧ Ext ρ S w ρ S' w' ∧ AR F ρ S' w' P v u ∧ K v S' := by
  unfold evNextM at h
  split at h
  · rename_i id hc
    obtain ⟨_, r, rfl, hr⟩ := hx.cell0 hc
    split at h
    · rename_i since seen stepped hg
      have hr := hr _ hg rfl
      subst hr
      obtain ⟨sn, mb, g1, g2, g3, _⟩ := (hR.ob _ _ hg).2
      have g3 := g3 rfl; subst g3
      exact ⟨.tuple #[.bool false], w, .tup [.one (dc (.bool false))], S, by simp [Instr.next, run_getObj g2], hR, Ext.refl _ _ _, ⟨_, rfl, VD.bool false, trivial⟩, h⟩
    · rename_i m since seen stepped hg
      have hr := hr _ hg rfl
      subst hr
      obtain ⟨sn, mb, rfl, g2, _, g4⟩ := (hR.ob _ _ hg).2
      obtain ⟨g5, g6⟩ := g4 m rfl
      split at h
      · rename_i k es clock hm
        have hmb := g6 _ hm rfl
        subst hmb
        obtain ⟨ms, q1, q2⟩ := map_ob hR hm
        split at h
        · rename_i hb
          rw [Bool.and_eq_true, ble_iff] at hb
          obtain ⟨hfl, hb⟩ := hb
          have hgone : (!sn.isEmpty && !ms.isEmpty && ms.all (·.born ≥ stepped)) = false := by
            rw [Bool.eq_false_iff]
            intro hh
            simp only [Bool.and_eq_true, Bool.not_eq_true'] at hh
            obtain ⟨⟨h1, h2⟩, h3⟩ := hh
            simp only [q2.isEmpty, Array.isEmpty_toList, h1, h2, Bool.false_or] at hb
            rw [All2.any (q := fun m => Nat.blt m.born stepped) (fun a b hab => by rw [hab.1]) q2] at hb
            rw [List.any_eq_true] at hb
            obtain ⟨x, hx1, hx2⟩ := hb
            rw [Array.all_eq_true_iff_forall_mem] at h3
            have := h3 x (by simpa using hx1)
            rw [decide_eq_true_eq] at this
            rw [blt_iff] at hx2
            omega
          have hco := coming_ok (since := since) (seen := sn) q2
          have hlen : (coming since sn.toList es).length = (candidates since sn ms).size := by rw [← Array.length_toList]; exact hco.length
          have hpos := candidates_pos since sn ms
          obtain ⟨w1, hw1, hrun⟩ := run_choose (P := P) (.mapNext (candidates since sn ms).size) w
          generalize hi : (if (Question.mapNext (candidates since sn ms).size).forced then 0 else (Question.mapNext (candidates since sn ms).size).cut (w.tape w.drawn (.mapNext (candidates since sn ms).size))) = i at hrun
          have hilt : i < (candidates since sn ms).size := by
            rw [← hi]
            split
            · exact hpos
            · exact Nat.mod_lt _ hpos
          have hci : (candidates since sn ms)[i]? = some (candidates since sn ms)[i] := Array.getElem?_eq_getElem hilt
          obtain ⟨c, hc1⟩ : ∃ c, (coming since sn.toList es)[i]? = some c := ⟨_, List.getElem?_eq_getElem (by omega)⟩
          have hcand := hco.get i c _ hc1 (by rw [Array.getElem?_toList]; exact hci)
          have hK : stepTo badP k S id m since clock sn.toList K c := by
            split at h
            · exact h.elim
            · rename_i e heq
              rw [heq] at hc1
              have h0 : i = 0 := by rw [heq] at hlen; simp at hlen; omega
              subst h0
              simp at hc1; subst hc1
              exact h
            · have := h i (by omega)
              simp only [hc1] at this
              exact this
          obtain ⟨u, w', v, S', p1, p2, p3, p4, p5⟩ := stepTo_ok (w := w) (hR.same hw1) hw1 hg hfl g2 ⟨g5, fun o ho ht => g6 o ho ht⟩ hcand hK
          refine ⟨u, w', v, S', ?_, p2, (Ext.same hw1).trans p3, p4, p5⟩
          have hnx : (Instr.next (.pointer (some ⟨(ρ.at id).1, 0, none⟩)) false ty).run P w =
              (do match (candidates since sn ms)[← choose (.mapNext (candidates since sn ms).size)]? with
                  | some (some e) =>
                    setObj (ρ.at id).1 (.mapIter (some (ρ.at m).1) since (sn.push e.born) clock)
                    pure (.tuple #[.bool true, e.key, e.val])
                  | some none => pure (.tuple #[.bool false])
                  | none => stuck "Next: no such candidate" : Sem Value).run P w := by
            simp only [Instr.next, Sem.run_bind, run_getObj g2 (by simp), Result.andThen_ok, run_getObj q1 (by simp), hgone, Bool.false_eq_true, if_false, Sem.run_pure]
            rfl
          rw [hnx, Sem.run_bind, hrun, Result.andThen_ok, hci]
          cases hmc : (candidates since sn ms)[i] with
          | none => rw [hmc] at p1; exact p1
          | some e => rw [hmc] at p1; exact p1
        · exact h.elim
      · exact h.elim
    · exact h.elim
  · exact h.elim

theorem findBorn_eq {k : KeyK} {b : Nat} {e : AEnt} : ∀ {es : List AEnt} {ms : List MapEntry}, All2 (EntR F ρ S w P k) es ms → findBorn b es = some e → ∃ m, ms.find? (·.born == b) = some m ∧ EntR F ρ S w P k e m
  | [], _, _, h => by cases h
  | a :: es, ms, hes, h => by
    obtain ⟨m, ms', rfl, h1, h2⟩ := hes.cons_inv
    simp only [findBorn] at h
    split at h
    · rename_i hb
      rw [beq_iff] at hb
      cases h
      exact ⟨m, by simp [List.find?_cons, ← h1.1, hb], h1⟩
    · rename_i hb
      have : (m.born == b) = false := by
        rw [← h1.1, Bool.eq_false_iff]
        intro hh
        rw [beq_iff_eq] at hh
        rw [beq_iff.2 hh] at hb; cases hb
      obtain ⟨m', h3, h4⟩ := findBorn_eq h2 h
      exact ⟨m', by simp [List.find?_cons, this, h3], h4⟩

theorem evEntry_ok (hR : R F ρ S w P) {x v : AVal} {xv : Value} {S' : St} (h : evEntry S x = some (v, S')) (hx : AR F ρ S w P x xv) :
    ∃ u, (Instr.entry xv).run P w = .ok u w ∧ S' = S ∧ AR F ρ S w P v u := by
  unfold evEntry at h
  split at h
  · rename_i id hc
    obtain ⟨_, r, rfl, hr⟩ := hx.cell0 hc
    split at h
    · rename_i m since seen stepped hg
      have hr := hr _ hg rfl
      subst hr
      obtain ⟨sn, mb, rfl, g2, _, g4⟩ := (hR.ob _ _ hg).2
      obtain ⟨g5, g6⟩ := g4 m rfl
      split at h
      · rename_i k es clock b hm hlast
        have hmb := g6 _ hm rfl
        subst hmb
        obtain ⟨ms, q1, q2⟩ := map_ob hR hm
        split at h
        · rename_i e hck hfb
          rw [beq_iff] at hck
          split at h
          · rename_i kv hkv
            cases h
            obtain ⟨me, p1, p2⟩ := findBorn_eq q2 hfb
            obtain ⟨kv', p3, p4⟩ := keyVl_ok (F := F) (ρ := ρ) (S := S) (w := w) (P := P) p2.2.1
            rw [hkv] at p3; cases p3
            refine ⟨.tuple #[me.key, me.val], ?_, rfl, _, rfl, p4, p2.2.2, trivial⟩
            have hback : sn.back? = some b := by
              rw [Array.back?_eq_getElem?]
              rw [List.getLast?_eq_getElem?] at hlast
              simpa using hlast
            have hf : ms.find? (·.born == b) = some me := by rw [← Array.find?_toList]; exact p1
            simp [Instr.entry, run_getObj g2, hback, run_getObj q1, hck, hf]
          · cases h
        · cases h
      · cases h
    · cases h
  · cases h

end
end Go.Rf
