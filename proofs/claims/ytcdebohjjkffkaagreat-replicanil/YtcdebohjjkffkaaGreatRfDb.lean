/- What is told to be the same is equal. -/
import Derived.Test.YtcdebohjjkffkaaGreatRfDa
namespace Go.Rf
set_option linter.unusedVariables false
set_option linter.unusedSimpArgs false
open Go

mutual
theorem Dat.same_eq : ∀ (a b : Dat), Dat.same a b = true → a = b
  | .bool a, b, h => by cases b <;> simp_all [Dat.same]
  | .int k a, b, h => by cases b <;> simp_all [Dat.same]
  | .flt k a, b, h => by cases b <;> simp_all [Dat.same]
  | .str a, b, h => by cases b <;> simp_all [Dat.same]
  | .nilp, b, h => by cases b <;> simp_all [Dat.same]
  | .nilm, b, h => by cases b <;> simp_all [Dat.same]
  | .nilf, b, h => by cases b <;> simp_all [Dat.same]
  | .nili, b, h => by cases b <;> simp_all [Dat.same]
  | .sl a c, b, h => by
    cases b with
    | sl b d =>
      simp only [Dat.same, Bool.and_eq_true, beq_iff_eq] at h
      rw [h.1, Dat.sames2_eq a b h.2]
    | _ => simp [Dat.same] at h
theorem Dat.sames_eq : ∀ (a b : List Dat), Dat.sames a b = true → a = b
  | [], [], _ => rfl
  | [], _ :: _, h => by simp [Dat.sames] at h
  | _ :: _, [], h => by simp [Dat.sames] at h
  | a :: x, b :: y, h => by
    simp only [Dat.sames, Bool.and_eq_true] at h
    rw [Dat.same_eq a b h.1, Dat.sames_eq x y h.2]
theorem Dat.sames2_eq : ∀ (a b : List (List Dat)), Dat.sames2 a b = true → a = b
  | [], [], _ => rfl
  | [], _ :: _, h => by simp [Dat.sames2] at h
  | _ :: _, [], h => by simp [Dat.sames2] at h
  | a :: x, b :: y, h => by
    simp only [Dat.sames2, Bool.and_eq_true] at h
    rw [Dat.sames_eq a b h.1, Dat.sames2_eq x y h.2]
end

theorem Cell0.same_eq {a b : Cell0} (h : a.same b = true) : a = b := by
  cases a <;> cases b <;> simp_all [Cell0.same]
  · exact Dat.same_eq _ _ h
  · exact Dat.sames_eq _ _ h

theorem sameL_eq {α : Type} {f : α → α → Bool} (hf : ∀ a b, f a b = true → a = b) : ∀ (x y : List α), sameL f x y = true → x = y
  | [], [], _ => rfl
  | [], _ :: _, h => by simp [sameL] at h
  | _ :: _, [], h => by simp [sameL] at h
  | a :: x, b :: y, h => by
    simp only [sameL, Bool.and_eq_true] at h
    rw [hf a b h.1, sameL_eq hf x y h.2]

theorem Vl0.same_eq {a b : Vl0} (h : a.same b = true) : a = b := by
  cases a; cases b
  simp only [Vl0.same, Bool.and_eq_true, beq_iff_eq] at h
  rw [h.1, sameL_eq (fun _ _ => Cell0.same_eq) _ _ h.2]

theorem Cell.same_eq {a b : Cell} (h : a.same b = true) : a = b := by
  cases a <;> cases b <;> simp only [Cell.same, Bool.and_eq_true, decide_eq_true_eq, beq_iff, beq_iff_eq] at h <;> try (exact Bool.noConfusion h)
  · rw [Cell0.same_eq h]
  · rw [h.1.1.1, h.1.1.2, sameL_eq (fun _ _ => Vl0.same_eq) _ _ h.1.2, sameL_eq (fun _ _ => Vl0.same_eq) _ _ h.2]
  · rw [h]
  · rw [h.1.1, h.1.2, sameL_eq (fun _ _ => Cell0.same_eq) _ _ h.2]

theorem Vl.same_eq {a b : Vl} (h : a.same b = true) : a = b := by
  cases a <;> cases b <;> simp only [Vl.same] at h <;> try (exact Bool.noConfusion h)
  · rw [Cell.same_eq h]
  · rw [sameL_eq (fun _ _ => Cell.same_eq) _ _ h]

theorem AVal.same_eq {a b : AVal} (h : a.same b = true) : a = b := by
  cases a <;> cases b <;> simp only [AVal.same] at h <;> try (exact Bool.noConfusion h)
  · rw [Vl.same_eq h]
  · rw [sameL_eq (fun _ _ => Vl.same_eq) _ _ h]
  · rfl

end Go.Rf
