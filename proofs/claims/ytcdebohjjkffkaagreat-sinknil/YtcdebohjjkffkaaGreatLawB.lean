/- A sink that is not there takes nothing, and the fixed calls answer as they must: 'SinkNil' returns true for every input, and its argument reads as it did. No condition. -/
import Derived.Test.YtcdebohjjkffkaaGreatSn3
import Derived.Test.YtcdebohjjkffkaaGreatRows
namespace Go.Proofs.YtcdebohjjkffkaaGreat.sinkNil
open Go Go.Rf Go.ChangeShapes Go.WideShapes Go.ChangeAt Go.RowKit

theorem own : ownKnob Tryz.prog.godebug = none := by kernel_rfl

/-- What is known: the fixed calls. -/
def known : Orc := fun g args => match Nat.beq g 27, args with
  | true, [] => some (dv (.bool true))
  | _, _ => none

theorem known_ok : OrcSound Tryz.prog known := orc_of_PKO ts.mixed ts.tabOk (ts.Ot_ok _ ts.mixed ts.tabOk) fun g args v h => by
  unfold known at h
  split at h
  · rename_i hg
    cases h
    rw [beq_iff] at hg
    subst hg
    exact ⟨rfl, ts.run_known⟩
  · cases h

theorem run (s : List Nat) : PKO known ts.A 1000000 12 4 [.one (dc (.str s))] St.zero (dv (.bool true)) St.zero :=
  fun K PN => by kernel_rfl

set_option maxRecDepth 100000 in
theorem contract (H : Type) (enc : TypeId × Value → H) (W : World) (base : Nat) (args : Array Value) (ds gs : List (DataW H)) (before : List MemPlace)
    (hval : ∀ (j : Nat) t v, Tryz.f4.params[j]? = some t → args[j]? = some v → Value.okWide Tryz.prog W .any base t v)
    (hW : DataW.Whole enc Tryz.prog Tryz.f4.params.toList Rows.sinkNilSpec.vars false W args.toList ds gs before) :
    Calls Tryz.prog 4 args W fun e W' => ∃ v, e = .returned v ∧ Rows.sinkNilSpec.post enc Tryz.prog Tryz.f4 false true false false W args v W' := by
  have hW' := hW
  obtain ⟨p, q, hA0, hV, rfl, hfz, hnd⟩ := hW
  have hA : DataW.TrodAll enc Tryz.prog W 0 (fun _ => true) true Tryz.f4.params.toList args.toList ds p := hA0
  rw [Tryz.params4] at hA hval
  obtain ⟨v0, vs0, d0, ds0, p0, q0, hargs, rfl, rfl, h0, r0⟩ := trodAll_cons hA
  obtain ⟨rfl, rfl, rfl⟩ := trodAll_nil r0
  obtain rfl : args = #[v0] := by cases args; simp_all
  obtain ⟨rfl, rfl⟩ := trodVars_none hV
  clear hA0
  have hc : Cell.okWide Tryz.prog W .any base 9 v0 := by
    have := hval 0 9 v0 rfl rfl
    unfold Value.okWide at this
    rw [Tryz.underlying9] at this
    exact this
  obtain ⟨s, rfl⟩ := cell_str Tryz.underlying9 hc
  have hv : All2 (VlR (Fo.of fun _ => False) Pl.zero St.zero W Tryz.prog) [.one (dc (.str (bytesOf s)))] (#[Value.string s] : Array Value).toList := ⟨.str _, trivial⟩
  refine (law_run ts.mixed ts.tabOk known_ok hv (run (bytesOf s))).mono fun e W' he => ?_
  obtain ⟨rfl, hsz, hk, hc⟩ := he
  exact ⟨_, rfl, law_post (by kernel_rfl) (by kernel_rfl) rfl rfl (by kernel_rfl) Tryz.underlying4 hW' hsz hk hc⟩

set_option maxRecDepth 100000 in
theorem lifted (os : Os) (started : os.Started) (H : Type) (enc : TypeId × Value → H) :
    ReturnsInHanded {} Tryz.checked os 4 .any (Rows.sinkNilSpec.pre6 enc Tryz.prog Tryz.f4 Rows.sinkNilRow.domain false) (Rows.sinkNilSpec.post enc Tryz.prog Tryz.f4 false true false false) := by
  refine returnsInHanded_of_change (C := Tryz.checked) (s := Rows.sinkNilSpec) own started (by kernel_rfl) Tryz.func4
    (ChangeSpec.witness6 (enc := enc) (C := Tryz.checked) (s := Rows.sinkNilSpec) false ⟨#[], #[.string ByteArray.empty], []⟩ 8 (by kernel_rfl) (by kernel_rfl) (by kernel_rfl) (by kernel_rfl)) ?_
  intro W base args ds gs before hval hW _ _
  exact contract H enc W base args ds gs before hval hW

/-- For every input 'SinkNil' returns true. -/
theorem proved : Rows.SinkNilSaid :=
  OpenClaim.holds_of_wide 4 Tryz.f4 rfl rfl rfl rfl rfl rfl rfl ⟨rfl, rfl, rfl, rfl, rfl⟩ rfl rfl rfl rfl rfl (by kernel_rfl) Tryz.func4 (by kernel_rfl)
    (of_decide_eq_true (by kernel_rfl)) (by unfold Func.isWrapper; first | (rw [if_pos (by decide +kernel)]; kernel_rfl) | (rw [if_neg (by decide +kernel)]; exact ⟨rfl, rfl⟩))
    (fun os started H enc _ => lifted os started H enc)
end Go.Proofs.YtcdebohjjkffkaaGreat.sinkNil
