/- Operations look at their operands alone; those that do not read do not look at the state; a bigger state answers alike. -/
import Derived.Test.YtcdebohjjkffkaaGreatRfD
namespace Go.Rf
set_option linter.unusedVariables false
set_option linter.unusedSimpArgs false
open Go

theorem rd_of {slots slots' : PM AVal} {l : List AOpd} (h : ∀ t ∈ tmpsOf l, (slots.get t).getD (.tup []) = (slots'.get t).getD (.tup [])) : ∀ x ∈ l, rdS slots x = rdS slots' x := by
  intro x hx
  cases x with
  | c v => rfl
  | t n => exact h n (List.mem_filterMap.2 ⟨.t n, hx, rfl⟩)

theorem fillAll_congr {rd rd' : AOpd → AVal} : ∀ (ps : List (Nat × Nat × AOpd)) (cs : List Cell), (∀ p ∈ ps, rd p.2.2 = rd' p.2.2) → fillAll rd ps cs = fillAll rd' ps cs
  | [], _, _ => rfl
  | (off, sz, x) :: r, cs, h => by
    have h1 : rd x = rd' x := h (off, sz, x) (by simp)
    simp only [fillAll, h1]
    split
    · split
      · exact fillAll_congr r _ fun p hp => h p (by simp [hp])
      · rfl
    · rfl

theorem bound_congr {rd rd' : AOpd → AVal} {most dflt : Nat} {x : Option AOpd} (h : ∀ y ∈ optT x, rd y = rd' y) : bound rd most dflt x = bound rd' most dflt x := by
  cases x with
  | none => rfl
  | some y => simp only [bound, h y (by simp [optT])]

theorem mapO_congr {α β : Type} {f g : α → Option β} : ∀ (l : List α), (∀ x ∈ l, f x = g x) → mapO f l = mapO g l
  | [], _ => rfl
  | x :: l, h => by
    simp only [mapO, h x (by simp), mapO_congr l fun y hy => h y (by simp [hy])]

theorem evQ_congr {S : St} {rd rd' : AOpd → AVal} {op : QOp} (h : ∀ x ∈ op.opds, rd x = rd' x) : evQ S rd op = evQ S rd' op := by
  cases op with
  | slice sz x lo hi mx =>
    have hx := h x (by simp [QOp.opds])
    have hlo := fun most dflt => bound_congr (most := most) (dflt := dflt) (fun y hy => h y (by simp [QOp.opds, hy])) (x := lo)
    have hhi := fun most dflt => bound_congr (most := most) (dflt := dflt) (fun y hy => h y (by simp [QOp.opds, hy])) (x := hi)
    have hmx := fun most dflt => bound_congr (most := most) (dflt := dflt) (fun y hy => h y (by simp [QOp.opds, hy])) (x := mx)
    simp only [evQ, evSlice, hx, hlo, hhi, hmx]
  | sslice x lo hi =>
    have hx := h x (by simp [QOp.opds])
    have hlo := fun most dflt => bound_congr (most := most) (dflt := dflt) (fun y hy => h y (by simp [QOp.opds, hy])) (x := lo)
    have hhi := fun most dflt => bound_congr (most := most) (dflt := dflt) (fun y hy => h y (by simp [QOp.opds, hy])) (x := hi)
    simp only [evQ, evSslice, hx, hlo, hhi]
  | build z ps =>
    simp only [evQ]
    rw [fillAll_congr ps z fun p hp => h _ (by simp only [QOp.opds]; exact List.mem_map.2 ⟨p, hp, rfl⟩)]
  | mkfn f g a b =>
    simp only [evQ, evMkfn]
    rw [mapO_congr a fun x hx => by rw [h x (by simp [QOp.opds, hx])], mapO_congr b fun x hx => by rw [h x (by simp [QOp.opds, hx])]]
  | _ => simp_all [evQ, QOp.opds]

theorem evM_congr {S : St} {rd rd' : AOpd → AVal} {op : MOp} (h : ∀ x ∈ op.opds, rd x = rd' x) : evM S rd op = evM S rd' op := by
  cases op with
  | bslice t sz n z ps =>
    simp only [evM]
    rw [fillAll_congr ps z fun p hp => h _ (by simp only [MOp.opds]; exact List.mem_map.2 ⟨p, hp, rfl⟩)]
  | _ => simp_all [evM, MOp.opds]

theorem evE_congr {call : CallT Prop} {rd rd' : AOpd → AVal} {S : St} {K : AVal → St → Prop} {PN : APan → St → Prop} {op : EOp} (h : ∀ x ∈ op.opds, rd x = rd' x) : evE badP allP call rd S K PN op = evE badP allP call rd' S K PN op := by
  cases op with
  | callf f as =>
    have : as.map rd = as.map rd' := List.map_congr_left fun x hx => h x (by simp [EOp.opds, hx])
    simp only [evE, this]
  | callv f as =>
    have : as.map rd = as.map rd' := List.map_congr_left fun x hx => h x (by simp [EOp.opds, hx])
    simp only [evE, this, h f (by simp [EOp.opds])]
  | next s x => cases s <;> simp_all [evE, EOp.opds]
  | _ => simp_all [evE, EOp.opds]

/-- What does not read does not look at the state. -/
theorem evQ_state {S S' : St} {rd : AOpd → AVal} {op : QOp} (h : op.reads = false) : evQ S rd op = evQ S' rd op := by
  cases op with
  | conv k x => cases k <;> first | rfl | (simp [QOp.reads] at h)
  | _ => first | rfl | (simp [QOp.reads] at h)

theorem evM_state {S S' : St} {rd : AOpd → AVal} {op : MOp} (h : op.reads = false) : evM S rd op = evM S' rd op := by
  cases op with
  | range s x =>
    cases s with
    | false => simp [MOp.reads] at h
    | true =>
      show evRange S true (rd x) = evRange S' true (rd x)
      unfold evRange
      generalize (rd x).cell0? = c
      cases c with
      | none => rfl
      | some c => cases c with
        | d d => cases d <;> rfl
        | _ => rfl
  | _ => first | rfl | (simp [MOp.reads] at h)

/-! ## A bigger state -/

def St.Sub (S S' : St) : Prop := ∀ id o, S.get id = some o → S'.get id = some o

theorem slLen_mono {S S' : St} (h : S.Sub S') {sz : Nat} {c : Cell0} {r : Nat × Bool} (hs : slLen S sz c = some r) : slLen S' sz c = some r := by
  unfold slLen at hs ⊢
  cases c with
  | sl id ver off len cl =>
    simp only at hs ⊢
    cases hg : S.get id with
    | none => rw [hg] at hs; cases hs
    | some o => rw [hg] at hs; rw [h id o hg]; exact hs
  | d d => cases d <;> exact hs
  | _ => exact hs

theorem elems_mono {S S' : St} (h : S.Sub S') {sz : Nat} {c : Cell0} {r : List (List Cell)} (hs : elems S sz c = some r) : elems S' sz c = some r := by
  unfold elems at hs ⊢
  cases c with
  | sl id ver off len cl =>
    simp only at hs ⊢
    cases hg : S.get id with
    | none => rw [hg] at hs; cases hs
    | some o => rw [hg] at hs; rw [h id o hg]; exact hs
  | d d => cases d <;> exact hs
  | _ => exact hs

theorem evQ_mono {S S' : St} (h : S.Sub S') {rd : AOpd → AVal} {op : QOp} {v : AVal} (he : evQ S rd op = some v) : evQ S' rd op = some v := by
  cases op with
  | load agg sz x =>
    simp only [evQ, evLoad] at he ⊢
    split at he
    · rename_i id ver off hc
      cases hg : S.get id with
      | none => rw [hg] at he; cases he
      | some o => rw [hg] at he; rw [h id o hg]; exact he
    · exact he
    · cases he
  | lookup k z ok x i =>
    simp only [evQ, evLookup] at he ⊢
    split at he
    · rename_i c iv hc hi
      have : ∀ es, entsOf S k c = some es → entsOf S' k c = some es := by
        intro es hes
        unfold entsOf at hes ⊢
        cases c with
        | mp id =>
          simp only at hes ⊢
          cases hg : S.get id with
          | none => rw [hg] at hes; cases hes
          | some o => rw [hg] at hes; rw [h id o hg]; exact hes
        | d d => cases d <;> exact hes
        | _ => exact hes
      cases hes : entsOf S k c with
      | none => rw [hes] at he; split at he <;> first | cases he | (rename_i h2; cases h2)
      | some es => rw [hes] at he; rw [this es hes]; exact he
    · cases he
  | iaddr sz al x i =>
    simp only [evQ, evIaddr] at he ⊢
    split at he
    · rename_i c n hc hn
      split at he
      · cases he
      · split at he
        · exact he
        · rename_i id ver off len cl
          split at he
          · cases he
          · cases hg : S.get id with
            | none => rw [hg] at he; cases he
            | some o => rw [hg] at he; simp_all [h id o hg]
        · exact he
        · exact he
        · cases he
    · cases he
  | slice sz x lo hi mx =>
    simp only [evQ, evSlice] at he ⊢
    split at he
    · rename_i c hc
      cases hs : slLen S sz c with
      | none => rw [hs] at he; cases he
      | some r => rw [hs] at he; rw [slLen_mono h hs]; exact he
    · cases he
  | len k x =>
    simp only [evQ, evLen] at he ⊢
    split at he
    · exact he
    · exact he
    · exact he
    · exact he
    · rename_i id hc
      cases hg : S.get id with
      | none => rw [hg] at he; cases he
      | some o => rw [hg] at he; rw [h id o hg]; exact he
    · cases he
  | conv k x =>
    cases k with
    | b2s =>
      simp only [evQ, evConv] at he ⊢
      split at he
      · rename_i c hc
        cases hs : elems S 1 c with
        | none => rw [hs] at he; cases he
        | some r => rw [hs] at he; rw [elems_mono h hs]; exact he
      · cases he
    | _ => exact he
  | _ => exact he

end Go.Rf
