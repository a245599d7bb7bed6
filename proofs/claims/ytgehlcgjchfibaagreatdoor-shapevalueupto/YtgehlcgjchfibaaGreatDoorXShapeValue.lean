/-
  figureheadlaw19.ShapeValue answers true at every input whose bulk is at most 1048576, and each argument reads afterwards as it read before; the four listed package variables (mode.ways, utf8.acceptRanges, ten.powers, utf8.first) hold what the program's text lays.
-/
import Derived.Test.YtgehlcgjchfibaaGreatDoorZ09
set_option maxRecDepth 100000
set_option linter.unusedVariables false
set_option linter.unusedSimpArgs false
set_option linter.defProp false
namespace Go.Proofs.YtgehlcgjchfibaaGreatDoor.F
open Go Go.ChangeMaps Go.ChangeShapes Go.WideShapes Go.ChangeAt Go.RowKit Go.Joins Go.Proofs
theorem contract9 (H : Type) (enc : TypeId × Value → H) (W : World) (base : Nat) (args : Array Value) (ds gs0 : List (DataW H)) (before : List MemPlace)
    (hval : ∀ (j : Nat) t v, Tryz.f9.params[j]? = some t → args[j]? = some v → Value.okWide Tryz.prog W .any base t v)
    (hW : DataW.Whole enc Tryz.prog Tryz.f9.params.toList Rows.shapeValueSpec.vars false W args.toList ds gs0 before) (hk : Rows.uptoSmall H (ds ++ gs0) = true) (hL : laidMetH Tryz.prog Rows.shapeValueUptoRow.laid W) :
    Calls Tryz.prog 9 args W fun e W' => ∃ v, e = .returned v ∧ Rows.shapeValueSpec.post enc Tryz.prog Tryz.f9 false true false false W args v W' := by
  have hG := gs_of hL
  have hC := Cg_lt hL
  have hW' := hW
  obtain ⟨p, q, hA0, hV, rfl, hfz, hnd⟩ := hW
  have hA : DataW.TrodAll enc Tryz.prog W 0 (fun _ => true) true Tryz.f9.params.toList args.toList ds p := hA0
  rw [Tryz.params9] at hA hval
  obtain ⟨v0, vs0, d0, ds0, p0, q0, hargs, rfl, rfl, h0, r0⟩ := trodAll_cons hA
  obtain ⟨v1, vs1, d1, ds1, p1, q1, rfl, rfl, rfl, h1, r1⟩ := trodAll_cons r0
  obtain ⟨v2, vs2, d2, ds2, p2, q2, rfl, rfl, rfl, h2, r2⟩ := trodAll_cons r1
  obtain ⟨rfl, rfl, rfl⟩ := trodAll_nil r2
  obtain rfl : args = #[v0, v1, v2] := by cases args; simp_all
  obtain ⟨rfl, rfl⟩ := trodVars_none hV
  obtain ⟨s0, rfl, rfl, rfl, l0⟩ := open_string Tryz.underlying9 (hval 0 9 v0 rfl rfl) h0
  obtain ⟨s1, rfl, rfl, rfl, l1⟩ := open_int Tryz.underlying3 (hval 1 3 v1 rfl rfl) h1
  obtain ⟨n2, s2, e2, rfl, rfl, rfl, l2, m2⟩ := dec_open (hval 2 23 v2 rfl rfl) h2
  clear hA0
  simp only [List.append_nil] at hW'
  have h := con9 s0.data.toList s1 ⟨n2, s2.data.toList, e2⟩ (Nat.lt_of_le_of_lt (bulk_le hk (s := s0.data.toList) (d := .lit (.string s0.data.toList)) (by simp) (by simp [Rows.uptoBulk])) (by decide)) (Nat.lt_of_le_of_lt (bulk_le hk (s := s2.data.toList) (d := decD n2 s2 e2) (by simp) (by simp only [decD, Rows.uptoBulk, Rows.uptoBulkAll]; omega)) (by decide)) W Cg _ hC hG (show RelL Cg W _ (#[Value.string s0, Value.int .i64 s1, decV n2 s2 e2] : Array Value).toList from .cons (rel_bytes s0) (.cons (.int .i64 s1) (.cons (rel_dec n2 s2 e2) (.nil _ _))))
  refine h.mono fun e W' he => ?_
  obtain ⟨u, C', rfl, hb, _, _, hu⟩ := he
  cases hu
  exact ⟨_, rfl, post_true hW' rfl rfl rfl (fun sp => trodAll_cons_mk (shut_string Tryz.underlying9 l0) (trodAll_cons_mk (shut_int Tryz.underlying3 l1) (trodAll_cons_mk (dec_shut l2 m2) (trodAll_mk0)))) hb⟩
theorem reads9 (os : Os) {H : Type} (enc : TypeId × Value → H) : ∃ places, DataW.whole enc Tryz.prog ((laidWorld os).forCall (fun _ _ => 0) ⟨#[], #[Value.string ⟨#[]⟩, Value.int .i64 0, decV false ⟨#[]⟩ 0], []⟩).memory Tryz.f9.params.toList Rows.shapeValueSpec.vars false (#[Value.string ⟨#[]⟩, Value.int .i64 0, decV false ⟨#[]⟩ 0] : Array Value).toList 8 = some ([.lit (.string []), .lit (.int .i64 0), .agg [.lit (.bool false), .lit (.string []), .lit (.int .i64 0)]], [], places) :=
  ⟨[], by kernel_rfl⟩
theorem lifted9 (os : Os) (started : os.Started) (H : Type) (enc : TypeId × Value → H) (F : Stop.Interp) :
    ReturnsInHanded {} Tryz.checked os 9 .any ((Rows.OpenSpec.upto Rows.shapeValueSpec).preRow enc Tryz.prog Tryz.f9 Rows.shapeValueUptoRow.domain false Rows.shapeValueUptoRow.laid) (((Rows.OpenSpec.upto Rows.shapeValueSpec).at F).post enc Tryz.prog Tryz.f9 false true false false) := by
  obtain ⟨places, hx⟩ := reads9 os enc
  refine returnsInHanded_of_row (C := Tryz.checked) (s := Rows.OpenSpec.upto Rows.shapeValueSpec) own started (by kernel_rfl) Tryz.func9
    (witness_row_at (enc := enc) (C := Tryz.checked) false (laidWorld os) #[Value.string ⟨#[]⟩, Value.int .i64 0, decV false ⟨#[]⟩ 0] rfl (by kernel_rfl) (by kernel_rfl) (by kernel_rfl)
      (OpenSpec.preRow_of_cond 8 hx (by kernel_rfl) (fun k hk => by cases hk; kernel_rfl) (by kernel_rfl) (laid_met os _))) ?_
  intro W base args ds gs before hval hW _ hcond _ hL _ _
  exact contract9 H enc W base args ds gs before hval hW (hcond _ rfl) hL
theorem said9 : Rows.ShapeValueUptoSaid :=
  OpenClaim.holds_of_cond 9 Tryz.f9 rfl rfl rfl rfl rfl rfl rfl ⟨rfl, rfl, rfl, rfl, rfl⟩ rfl rfl rfl rfl rfl (by kernel_rfl) Tryz.func9 (by kernel_rfl)
    (of_decide_eq_true (by kernel_rfl)) (by unfold Func.isWrapper; first | (rw [if_pos (by decide +kernel)]; kernel_rfl) | (rw [if_neg (by decide +kernel)]; exact ⟨rfl, rfl⟩))
    (fun os started H enc _ F => by rw [OpenClaim.pre_eq_preRow]; exact lifted9 os started H enc F)
theorem plain9 (f : FuncId) (fn : Func) (hf : Tryz.pinned.checked.prog.funcNamed "figurehead/figureheadlaw19.ShapeValue" = some f) (hfn : Tryz.pinned.checked.prog.funcs[f]? = some fn) :
    false = Tryz.pinned.checked.prog.looks [] ∧ ∀ (j : Nat) t, fn.params[j]? = some t → Tryz.pinned.checked.prog.wantsStandIn t = false := by
  obtain rfl : f = 9 := Option.some.inj ((show Tryz.prog.funcNamed "figurehead/figureheadlaw19.ShapeValue" = some 9 by kernel_rfl).symm.trans hf) |>.symm
  obtain rfl : fn = Tryz.f9 := (Option.some.inj (Tryz.func9.symm.trans hfn)).symm
  refine ⟨by kernel_rfl, fun j t ht => ?_⟩
  rw [Tryz.params9] at ht
  have hm : t ∈ [9, 3, 23] := by simpa using Array.mem_of_getElem? ht
  have hall : ([9, 3, 23].all fun u => !Tryz.prog.wantsStandIn u) = true := by kernel_rfl
  exact (show Tryz.prog.wantsStandIn t = false by simpa using List.all_eq_true.1 hall t hm)
end Go.Proofs.YtgehlcgjchfibaaGreatDoor.F
namespace Go.Proofs.YtgehlcgjchfibaaGreatDoor
theorem shapeValue_upto : Rows.ShapeValueUptoCardSaid :=
  Claim7.holds_tied_plain_at .later [] _ _ _ _ F.said9 (fun _ h => by cases h) (by kernel_rfl) (fun _ h => by cases h) shapeValueUpto_row_tie rfl ⟨rfl, rfl⟩ (by kernel_rfl) rfl F.plain9 (by kernel_rfl)
end Go.Proofs.YtgehlcgjchfibaaGreatDoor
