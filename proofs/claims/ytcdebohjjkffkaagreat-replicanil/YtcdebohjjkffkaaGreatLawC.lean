/- A replica that is not there tells nothing, and the fixed calls answer as they must: 'ReplicaNil' returns true for every input, and its arguments read as they did. No condition. -/
import Derived.Test.YtcdebohjjkffkaaGreatRn9
import Derived.Test.YtcdebohjjkffkaaGreatRows
namespace Go.Proofs.YtcdebohjjkffkaaGreat.replicaNil
open Go Go.Rf Go.ChangeShapes Go.WideShapes Go.ChangeAt Go.RowKit

theorem own : ownKnob Tryz.prog.godebug = none := by kernel_rfl

/-- What is known: the fixed calls. -/
def known : Orc := fun g args => match Nat.beq g 41, args with
  | true, [] => some (dv (.bool true))
  | _, _ => none

theorem known_ok : OrcSound Tryz.prog known := orc_of_PKO tr.mixed tr.tabOk (tr.Ot_ok _ tr.mixed tr.tabOk) fun g args v h => by
  unfold known at h
  split at h
  · rename_i hg
    cases h
    rw [beq_iff] at hg
    subst hg
    exact ⟨rfl, tr.run_known⟩
  · cases h

theorem run (s tb : List Nat) (k t v f u m : Int) (l1 l2 l3 : List (List Dat)) (d : Bool) :
    PKO known tr.A 1000000 12 5 [.one (dc (.str s)), .agg [dc (.int .i64 k), dc (.str tb), dc (.sl l1 false), dc (.int .i64 t), dc (.int .i64 v), dc (.int .i64 f), dc (.int .i64 u), dc (.sl l2 false), dc (.sl l3 false), dc (.int .i64 m), dc (.bool d)]] St.zero (dv (.bool true)) St.zero :=
  fun K PN => by kernel_rfl

theorem cells74 : Tryz.prog.cellTypes Tryz.prog.depth 74 = some [3, 9, 71, 3, 3, 3, 3, 72, 61, 3, 4] := by kernel_rfl
theorem of74 : Tryz.prog.cellsOf 74 = 11 := by kernel_rfl

set_option maxRecDepth 100000 in
theorem contract (H : Type) (enc : TypeId × Value → H) (W : World) (base : Nat) (args : Array Value) (ds gs : List (DataW H)) (before : List MemPlace)
    (hval : ∀ (j : Nat) t v, Tryz.f5.params[j]? = some t → args[j]? = some v → Value.okWide Tryz.prog W .any base t v)
    (hW : DataW.Whole enc Tryz.prog Tryz.f5.params.toList Rows.replicaNilSpec.vars false W args.toList ds gs before) :
    Calls Tryz.prog 5 args W fun e W' => ∃ v, e = .returned v ∧ Rows.replicaNilSpec.post enc Tryz.prog Tryz.f5 false true false false W args v W' := by
  have hW' := hW
  obtain ⟨p, q, hA0, hV, rfl, hfz, hnd⟩ := hW
  have hA : DataW.TrodAll enc Tryz.prog W 0 (fun _ => true) true Tryz.f5.params.toList args.toList ds p := hA0
  rw [Tryz.params5] at hA hval
  obtain ⟨v0, vs0, d0, ds0, p0, q0, hargs, rfl, rfl, h0, r0⟩ := trodAll_cons hA
  obtain ⟨v1, vs1, d1, ds1, p1, q1, rfl, rfl, rfl, h1, r1⟩ := trodAll_cons r0
  obtain ⟨rfl, rfl, rfl⟩ := trodAll_nil r1
  obtain rfl : args = #[v0, v1] := by cases args; simp_all
  obtain ⟨rfl, rfl⟩ := trodVars_none hV
  clear hA0
  have hc : Cell.okWide Tryz.prog W .any base 9 v0 := by
    have := hval 0 9 v0 rfl rfl
    unfold Value.okWide at this
    rw [Tryz.underlying9] at this
    exact this
  obtain ⟨s, rfl⟩ := cell_str Tryz.underlying9 hc
  obtain ⟨c1, rfl, k1⟩ := agg_cells (fs := _) Tryz.underlying74 cells74 of74 (hval 1 74 v1 rfl rfl)
  obtain ⟨a0, x0, e1, o0, k1⟩ := k1.cons_inv
  obtain ⟨a1, x1, rfl, o1, k1⟩ := k1.cons_inv
  obtain ⟨a2, x2, rfl, o2, k1⟩ := k1.cons_inv
  obtain ⟨a3, x3, rfl, o3, k1⟩ := k1.cons_inv
  obtain ⟨a4, x4, rfl, o4, k1⟩ := k1.cons_inv
  obtain ⟨a5, x5, rfl, o5, k1⟩ := k1.cons_inv
  obtain ⟨a6, x6, rfl, o6, k1⟩ := k1.cons_inv
  obtain ⟨a7, x7, rfl, o7, k1⟩ := k1.cons_inv
  obtain ⟨a8, x8, rfl, o8, k1⟩ := k1.cons_inv
  obtain ⟨a9, x9, rfl, o9, k1⟩ := k1.cons_inv
  obtain ⟨a10, x10, rfl, o10, k1⟩ := k1.cons_inv
  obtain rfl := k1.nil_inv
  obtain ⟨n0, rfl⟩ := cell_int Tryz.underlying3 o0
  obtain ⟨n1, rfl⟩ := cell_str Tryz.underlying9 o1
  obtain ⟨l1, g1⟩ := cell_sl (Ro (Fo.of fun _ => False) Pl.zero St.zero W) Tryz.underlying71 o2
  obtain ⟨n3, rfl⟩ := cell_int Tryz.underlying3 o3
  obtain ⟨n4, rfl⟩ := cell_int Tryz.underlying3 o4
  obtain ⟨n5, rfl⟩ := cell_int Tryz.underlying3 o5
  obtain ⟨n6, rfl⟩ := cell_int Tryz.underlying3 o6
  obtain ⟨l2, g2⟩ := cell_sl (Ro (Fo.of fun _ => False) Pl.zero St.zero W) Tryz.underlying72 o7
  obtain ⟨l3, g3⟩ := cell_sl (Ro (Fo.of fun _ => False) Pl.zero St.zero W) Tryz.underlying61 o8
  obtain ⟨n9, rfl⟩ := cell_int Tryz.underlying3 o9
  obtain ⟨n10, rfl⟩ := cell_bool Tryz.underlying4 o10
  have hv : All2 (VlR (Fo.of fun _ => False) Pl.zero St.zero W Tryz.prog) [.one (dc (.str (bytesOf s))), .agg [dc (.int .i64 n0), dc (.str (bytesOf n1)), dc (.sl l1 false), dc (.int .i64 n3), dc (.int .i64 n4), dc (.int .i64 n5), dc (.int .i64 n6), dc (.sl l2 false), dc (.sl l3 false), dc (.int .i64 n9), dc (.bool n10)]] (#[Value.string s, Value.agg c1] : Array Value).toList := by
    refine ⟨.str _, ⟨c1, rfl, ?_⟩, trivial⟩
    rw [e1]
    exact ⟨.int _ _, .str _, g1, .int _ _, .int _ _, .int _ _, .int _ _, g2, g3, .int _ _, .bool _, trivial⟩
  refine (law_run tr.mixed tr.tabOk known_ok hv (run (bytesOf s) (bytesOf n1) n0 n3 n4 n5 n6 n9 l1 l2 l3 n10)).mono fun e W' he => ?_
  obtain ⟨rfl, hsz, hk, hc⟩ := he
  exact ⟨_, rfl, law_post (by kernel_rfl) (by kernel_rfl) rfl rfl (by kernel_rfl) Tryz.underlying4 hW' hsz hk hc⟩

set_option maxRecDepth 100000 in
theorem lifted (os : Os) (started : os.Started) (H : Type) (enc : TypeId × Value → H) :
    ReturnsInHanded {} Tryz.checked os 5 .any (Rows.replicaNilSpec.pre6 enc Tryz.prog Tryz.f5 Rows.replicaNilRow.domain false) (Rows.replicaNilSpec.post enc Tryz.prog Tryz.f5 false true false false) := by
  refine returnsInHanded_of_change (C := Tryz.checked) (s := Rows.replicaNilSpec) own started (by kernel_rfl) Tryz.func5
    (ChangeSpec.witness6 (enc := enc) (C := Tryz.checked) (s := Rows.replicaNilSpec) false ⟨#[], #[.string ByteArray.empty, .agg #[.int .i64 0, .string ByteArray.empty, .slice none 0 0, .int .i64 0, .int .i64 0, .int .i64 0, .int .i64 0, .slice none 0 0, .slice none 0 0, .int .i64 0, .bool false]], []⟩ 8 (by kernel_rfl) (by kernel_rfl) (by kernel_rfl) (by kernel_rfl)) ?_
  intro W base args ds gs before hval hW _ _
  exact contract H enc W base args ds gs before hval hW

theorem named : Tryz.pinned.checked.prog.funcNamed Rows.replicaNilRow.func = some 5 := by kernel_rfl
theorem closed : joinedFacts Tryz.pinned.checked.prog 5 Tryz.f5 Rows.replicaNilSpec Rows.replicaNilRow = true := by kernel_rfl
theorem inst : Tryz.f5.isInstance Tryz.pinned.checked.prog Rows.replicaNilRow.origin Rows.replicaNilRow.targs := of_decide_eq_true (by kernel_rfl)
theorem wrap : Tryz.f5.isWrapper Tryz.pinned.checked.prog Rows.replicaNilRow.wrapper Rows.replicaNilRow.mainSum := by unfold Func.isWrapper; first | (rw [if_pos (by decide +kernel)]; kernel_rfl) | (rw [if_neg (by decide +kernel)]; exact ⟨rfl, rfl⟩)

/-- For every input 'ReplicaNil' returns true. -/
theorem proved : Rows.ReplicaNilSaid :=
  OpenClaim.holds_of_wide 5 Tryz.f5 rfl rfl rfl rfl rfl rfl rfl ⟨rfl, rfl, rfl, rfl, rfl⟩ rfl rfl rfl rfl rfl named Tryz.func5 closed inst wrap
    (fun os started H enc _ => lifted os started H enc)
end Go.Proofs.YtcdebohjjkffkaaGreat.replicaNil
