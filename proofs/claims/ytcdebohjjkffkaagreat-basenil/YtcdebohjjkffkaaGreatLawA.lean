/- A base that is not there has nothing, and the fixed calls answer as they must: 'BaseNil' returns true for every input, and its arguments read as they did. No condition. -/
import Derived.Test.YtcdebohjjkffkaaGreatK3
import Derived.Test.YtcdebohjjkffkaaGreatRows
namespace Go.Proofs.YtcdebohjjkffkaaGreat.baseNil
open Go Go.Rf Go.ChangeShapes Go.WideShapes Go.ChangeAt Go.RowKit

theorem own : ownKnob Tryz.prog.godebug = none := by kernel_rfl

/-- What is known: the fixed calls. -/
def known : Orc := fun g args => match Nat.beq g 20, args with
  | true, [] => some (dv (.bool true))
  | _, _ => none

theorem known_ok : OrcSound Tryz.prog known := orc_of_PK t.mixed t.tabOk fun g args v h => by
  unfold known at h
  split at h
  · rename_i hg
    cases h
    rw [beq_iff] at hg
    subst hg
    exact ⟨rfl, t.run_known⟩
  · cases h

theorem run (n1 n2 n3 n4 n5 : Int) (els : List (List Dat)) (s1 s2 : List Nat) : PKO known t.A 1000000 12 3 [.agg [dc (.int .i64 n1), dc (.int .i64 n2), dc (.sl els false)], .agg [dc (.str s1), dc (.str s2), dc (.int .i64 n3), dc (.int .i64 n4), dc (.int .i64 n5)]] St.zero (dv (.bool true)) St.zero :=
  fun K PN => by kernel_rfl

theorem cells24 : Tryz.prog.cellTypes Tryz.prog.depth 24 = some [3, 3, 22] := by kernel_rfl
theorem cells28 : Tryz.prog.cellTypes Tryz.prog.depth 28 = some [9, 9, 3, 3, 3] := by kernel_rfl
theorem of24 : Tryz.prog.cellsOf 24 = 3 := by kernel_rfl
theorem of28 : Tryz.prog.cellsOf 28 = 5 := by kernel_rfl

set_option maxRecDepth 100000 in
theorem contract (H : Type) (enc : TypeId × Value → H) (W : World) (base : Nat) (args : Array Value) (ds gs : List (DataW H)) (before : List MemPlace)
    (hval : ∀ (j : Nat) t v, Tryz.f3.params[j]? = some t → args[j]? = some v → Value.okWide Tryz.prog W .any base t v)
    (hW : DataW.Whole enc Tryz.prog Tryz.f3.params.toList Rows.baseNilSpec.vars false W args.toList ds gs before) :
    Calls Tryz.prog 3 args W fun e W' => ∃ v, e = .returned v ∧ Rows.baseNilSpec.post enc Tryz.prog Tryz.f3 false true false false W args v W' := by
  have hW' := hW
  obtain ⟨p, q, hA0, hV, rfl, hfz, hnd⟩ := hW
  have hA : DataW.TrodAll enc Tryz.prog W 0 (fun _ => true) true Tryz.f3.params.toList args.toList ds p := hA0
  rw [Tryz.params3] at hA hval
  obtain ⟨v0, vs0, d0, ds0, p0, q0, hargs, rfl, rfl, h0, r0⟩ := trodAll_cons hA
  obtain ⟨v1, vs1, d1, ds1, p1, q1, rfl, rfl, rfl, h1, r1⟩ := trodAll_cons r0
  obtain ⟨rfl, rfl, rfl⟩ := trodAll_nil r1
  obtain rfl : args = #[v0, v1] := by cases args; simp_all
  obtain ⟨rfl, rfl⟩ := trodVars_none hV
  clear hA0
  obtain ⟨c0, rfl, k0⟩ := agg_cells (fs := _) Tryz.underlying24 cells24 of24 (hval 0 24 v0 rfl rfl)
  obtain ⟨c1, rfl, k1⟩ := agg_cells (fs := _) Tryz.underlying28 cells28 of28 (hval 1 28 v1 rfl rfl)
  obtain ⟨a0, x0, e0, o0, k0⟩ := k0.cons_inv
  obtain ⟨a1, x1, rfl, o1, k0⟩ := k0.cons_inv
  obtain ⟨a2, x2, rfl, o2, k0⟩ := k0.cons_inv
  obtain rfl := k0.nil_inv
  obtain ⟨b0, y0, e1, q0, k1⟩ := k1.cons_inv
  obtain ⟨b1, y1, rfl, q1, k1⟩ := k1.cons_inv
  obtain ⟨b2, y2, rfl, q2, k1⟩ := k1.cons_inv
  obtain ⟨b3, y3, rfl, q3, k1⟩ := k1.cons_inv
  obtain ⟨b4, y4, rfl, q4, k1⟩ := k1.cons_inv
  obtain rfl := k1.nil_inv
  obtain ⟨n1, rfl⟩ := cell_int Tryz.underlying3 o0
  obtain ⟨n2, rfl⟩ := cell_int Tryz.underlying3 o1
  obtain ⟨els, hels⟩ := cell_sl (Ro (Fo.of fun _ => False) Pl.zero St.zero W) Tryz.underlying22 o2
  obtain ⟨s1, rfl⟩ := cell_str Tryz.underlying9 q0
  obtain ⟨s2, rfl⟩ := cell_str Tryz.underlying9 q1
  obtain ⟨n3, rfl⟩ := cell_int Tryz.underlying3 q2
  obtain ⟨n4, rfl⟩ := cell_int Tryz.underlying3 q3
  obtain ⟨n5, rfl⟩ := cell_int Tryz.underlying3 q4
  have hv : All2 (VlR (Fo.of fun _ => False) Pl.zero St.zero W Tryz.prog) [.agg [dc (.int .i64 n1), dc (.int .i64 n2), dc (.sl els false)], .agg [dc (.str (bytesOf s1)), dc (.str (bytesOf s2)), dc (.int .i64 n3), dc (.int .i64 n4), dc (.int .i64 n5)]] (#[Value.agg c0, Value.agg c1] : Array Value).toList := by
    refine ⟨⟨c0, rfl, ?_⟩, ⟨c1, rfl, ?_⟩, trivial⟩
    · rw [e0]; exact ⟨.int _ _, .int _ _, hels, trivial⟩
    · rw [e1]; exact ⟨.str _, .str _, .int _ _, .int _ _, .int _ _, trivial⟩
  refine (law_run t.mixed t.tabOk known_ok hv (run n1 n2 n3 n4 n5 els (bytesOf s1) (bytesOf s2))).mono fun e W' he => ?_
  obtain ⟨rfl, hsz, hk, hc⟩ := he
  exact ⟨_, rfl, law_post (by kernel_rfl) (by kernel_rfl) rfl rfl (by kernel_rfl) Tryz.underlying4 hW' hsz hk hc⟩

set_option maxRecDepth 100000 in
theorem lifted (os : Os) (started : os.Started) (H : Type) (enc : TypeId × Value → H) :
    ReturnsInHanded {} Tryz.checked os 3 .any (Rows.baseNilSpec.pre6 enc Tryz.prog Tryz.f3 Rows.baseNilRow.domain false) (Rows.baseNilSpec.post enc Tryz.prog Tryz.f3 false true false false) := by
  refine returnsInHanded_of_change (C := Tryz.checked) (s := Rows.baseNilSpec) own started (by kernel_rfl) Tryz.func3
    (ChangeSpec.witness6 (enc := enc) (C := Tryz.checked) (s := Rows.baseNilSpec) false ⟨#[], #[.agg #[.int .i64 0, .int .i64 0, .slice none 0 0], .agg #[.string ByteArray.empty, .string ByteArray.empty, .int .i64 0, .int .i64 0, .int .i64 0]], []⟩ 8 (by kernel_rfl) (by kernel_rfl) (by kernel_rfl) (by kernel_rfl)) ?_
  intro W base args ds gs before hval hW _ _
  exact contract H enc W base args ds gs before hval hW

/-- For every input 'BaseNil' returns true. -/
theorem proved : Rows.BaseNilSaid :=
  OpenClaim.holds_of_wide 3 Tryz.f3 rfl rfl rfl rfl rfl rfl rfl ⟨rfl, rfl, rfl, rfl, rfl⟩ rfl rfl rfl rfl rfl (by kernel_rfl) Tryz.func3 (by kernel_rfl)
    (of_decide_eq_true (by kernel_rfl)) (by unfold Func.isWrapper; first | (rw [if_pos (by decide +kernel)]; kernel_rfl) | (rw [if_neg (by decide +kernel)]; exact ⟨rfl, rfl⟩))
    (fun os started H enc _ => lifted os started H enc)
end Go.Proofs.YtcdebohjjkffkaaGreat.baseNil
