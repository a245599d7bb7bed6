/-
  What the functions that the laws call compute, for every input that the statements allow (part 3): for the claims up to a bulk of 1048576.
-/
import Derived.Test.YtgehlcgjchfibaaGreatDoorX02
import Derived.Test.YtgehlcgjchfibaaGreatDoorCards
import Derived.Test.YtgehlcgjchfibaaGreatDoorTie
import Derived.WalkKit
import Derived.ProofKit
import Derived.OpenShut
import Derived.Deep.DeepHandedRow
import Derived.Lib.LaidTab
import Derived.Lib.SmallJoins
import Derived.LaidMore
import Derived.LaidHandle
import Derived.Lib.DecodeN
import Derived.Lib.OthersKept
import Derived.Laws.RangeString
import Derived.Shelf.Strings.Trim
import Derived.Shelf.Strings.BuilderK
import Derived.Ground.Names2Prog
import Derived.Ground.SlgnProg
import Derived.Shelf.SlicesE.Clone
import Derived.Test.YtgehlcgjchfibaaGreatDoorProg
import Derived.Laws.CopyOwn
import Derived.Laws.MakeOwn
import Derived.RegionTactic
import Derived.OwnWalk
import Derived.Lib.Hide
import Derived.Laws.Rows
set_option maxRecDepth 100000
set_option linter.unusedVariables false
set_option linter.unusedSimpArgs false
set_option linter.defProp false
namespace Go.Proofs.YtgehlcgjchfibaaGreatDoor.F
open Go Go.ChangeShapes Go.WideShapes Go.ChangeAt Go.RowKit Go.Joins Go.Proofs

abbrev laid4 : List (String × DataW Unit) := [("figurehead/mode.ways", Rows.laid_figurehead_mode_ways), ("unicode/utf8.acceptRanges", Rows.laid_unicode_utf8_acceptRanges), ("figurehead/ten.powers", Rows.laid_figurehead_ten_powers), ("unicode/utf8.first", Rows.laid_unicode_utf8_first)]
abbrev laid3 : List (String × DataW Unit) := [("unicode/utf8.acceptRanges", Rows.laid_unicode_utf8_acceptRanges), ("figurehead/ten.powers", Rows.laid_figurehead_ten_powers), ("unicode/utf8.first", Rows.laid_unicode_utf8_first)]
theorem own : ownKnob Tryz.prog.godebug = none := by kernel_rfl
theorem gPow : Tryz.prog.globalNamed "figurehead/ten.powers" = some 0 := by kernel_rfl
theorem gWays : Tryz.prog.globalNamed "figurehead/mode.ways" = some 1 := by kernel_rfl
theorem gAcc : Tryz.prog.globalNamed "unicode/utf8.acceptRanges" = some 3 := by kernel_rfl
theorem laid_parts {W : World} (h : laidMetH Tryz.prog laid4 W) : laidMet Tryz.prog laid3 W ∧ funcsAt Tryz.prog W "figurehead/mode.ways" (match (Rows.laid_figurehead_mode_ways : DataW Unit) with | .iface _ d => d | d => d) :=
  ⟨((show laidMetH Tryz.prog laid4 W = (laidMet Tryz.prog laid3 W ∧ handlesMet Tryz.prog [("figurehead/mode.ways", Rows.laid_figurehead_mode_ways)] W) by kernel_rfl).mp h).1, h.funcs (n := "figurehead/mode.ways") (.head _)⟩
theorem tPow : (Tryz.prog.globals[0]?).map (·.type) = some 117 := by kernel_rfl
theorem tWays : (Tryz.prog.globals[1]?).map (·.type) = some 123 := by kernel_rfl
theorem cells117 : Tryz.prog.cellsOf 117 = 9 := by kernel_rfl
theorem cells94 : Tryz.prog.cellsOf 94 = 1 := by kernel_rfl
theorem cells123 : Tryz.prog.cellsOf 123 = 8 := by kernel_rfl
theorem cells120 : Tryz.prog.cellsOf 120 = 1 := by kernel_rfl
theorem cells122 : Tryz.prog.cellsOf 122 = 1 := by kernel_rfl
/-- What the row's list gives of ten.powers. -/
theorem powers {W : World} (h : laidMet Tryz.prog laid3 W) : Lib.TabIs Tryz.prog W "figurehead/ten.powers" .u32 [1, 10, 100, 1000, 10000, 100000, 1000000, 10000000, 100000000] := by
  obtain ⟨ps, ⟨g0, t0, cs0, f0, p0, q0, hg0, ht0, hv0, hd0, ⟨g, t, cs, f, p, q, hg, ht, hv, hd, _, _⟩, _⟩, _⟩ := h
  obtain rfl := Option.some.inj (gPow.symm.trans hg)
  obtain rfl := Option.some.inj (tPow.symm.trans ht)
  unfold Lib.TabIs
  rw [hv, ← Lib.cells_of_tab (zs := [1, 10, 100, 1000, 10000, 100000, 1000000, 10000000, 100000000]) Tryz.underlying117 Tryz.underlying94 cells94 cells117 hd]
theorem way_of {W : World} {fuel : Nat} {c : Value} {b : UInt8} {r : List UInt8} {x : DataW (List UInt8) × List MemPlace} {f0 : FuncId} (hone : ((List.range Tryz.prog.funcs.size).filter fun f => (Tryz.prog.funcs[f]?).any (·.name.toUTF8.data.toList == b :: r)) = [f0])
    (h : DataW.trod (funcToken Tryz.prog) Tryz.prog W 0 (fun _ => true) true fuel 122 [c] = some x) (hx : x.1 = .agg [.held (b :: r)]) : c = .func (.func f0) #[] #[] := by
  obtain ⟨xs, n, rfl, rfl, _, hl, hf⟩ := DataW.trod_struct Tryz.underlying122 h
  have h0 := hf 0 _ rfl
  match xs, hl with
  | [y], _ =>
    have hy : y.1 = .held (b :: r) := by simpa using hx
    obtain ⟨y1, y2⟩ := y
    simp only at hy
    subst hy
    have h1 : DataW.trod (funcToken Tryz.prog) Tryz.prog W 0 (fun _ => true) true n 120 (List.take (Tryz.prog.cellsOf 120) [c]) = some (.held (b :: r), y2) := h0
    rw [cells120] at h1
    exact func_of_trod (f0 := f0) Tryz.underlying120 hone h1
def wayTl (i : Nat) : List UInt8 := [105, 103, 117, 114, 101, 104, 101, 97, 100, 47, 109, 111, 100, 101, 46, 119, 97, 121, 115, 36, UInt8.ofNat (49 + i)]
theorem honeA : ((List.range 8).all fun i => decide (((List.range Tryz.prog.funcs.size).filter fun f => (Tryz.prog.funcs[f]?).any (·.name.toUTF8.data.toList == 102 :: wayTl i)) = [174 + i])) = true := by kernel_rfl
theorem hone8 (i : Nat) (hi : i < 8) : ((List.range Tryz.prog.funcs.size).filter fun f => (Tryz.prog.funcs[f]?).any (·.name.toUTF8.data.toList == 102 :: wayTl i)) = [174 + i] :=
  of_decide_eq_true (List.all_eq_true.1 honeA i (List.mem_range.2 hi))
/-- What the row's list gives of mode.ways. -/
theorem ways {W : World} (h : funcsAt Tryz.prog W "figurehead/mode.ways" (match (Rows.laid_figurehead_mode_ways : DataW Unit) with | .iface _ d => d | d => d)) (i : Nat) (hi : i < 8) : W.cell? ⟨1, i, none⟩ = some (.func (.func (174 + i)) #[] #[]) := by
  obtain ⟨g, t, cs, fuel, p, hg, ht, hv, hd⟩ := h
  obtain rfl := Option.some.inj (gWays.symm.trans hg)
  obtain rfl := Option.some.inj (tWays.symm.trans ht)
  obtain ⟨xs, m, rfl, hx, hcl, hxl, hel⟩ := DataW.trod_array Tryz.underlying123 hd
  rw [cells123] at hcl
  have hx1 : xs.map (·.1) = (List.range 8).map fun k => (.agg [.held (102 :: wayTl k)] : DataW (List UInt8)) := (DataW.agg.inj (congrArg Prod.fst hx)).symm.trans (by kernel_rfl)
  have hc := World.var?_cell gWays hv i
  have he := hel i hi
  rw [cells122] at he
  have hil : i < cs.toList.length := by omega
  have htk : (cs.toList.drop (i * 1)).take 1 = [cs.toList[i]] := by rw [Nat.mul_one, List.drop_eq_getElem_cons hil]; rfl
  rw [htk, List.getElem?_eq_getElem (by omega)] at he
  have hcs : cs[i]? = some cs.toList[i] := by simp
  rw [hc, hcs]
  have hxi : xs[i].1 = .agg [.held (102 :: wayTl i)] := by
    have h1 := congrArg (·[i]?) hx1
    simp only [List.getElem?_map, List.getElem?_range hi, Option.map_some] at h1
    rw [List.getElem?_eq_getElem (by omega)] at h1
    simpa using h1
  congr 1
  generalize cs.toList[i] = c at he
  exact way_of (b := 102) (r := wayTl i) (hone8 i hi) he hxi
/-- The cells that nobody writes any more when the call begins: the two variables. -/
def Cg (b o : Nat) : Prop := (b = 0 ∧ o < 9) ∨ (b = 1 ∧ o < 8)
theorem gs_of {W : World} (h : laidMetH Tryz.prog laid4 W) : GRel gs Cg W := by
  obtain ⟨h1, h2⟩ := laid_parts h
  have hp := powers h1
  have hw := ways h2
  have hc : ∀ i, i < 9 → W.cell? ⟨0, i, none⟩ = some (.int .u32 (([1, 10, 100, 1000, 10000, 100000, 1000000, 10000000, 100000000] : List Int).getD i 0)) := fun i hi => hp.cell gPow i hi
  intro g v hm
  simp only [gs, List.mem_cons, List.not_mem_nil, or_false, Prod.mk.injEq] at hm
  rcases hm with ⟨rfl, rfl⟩ | ⟨rfl, rfl⟩
  · refine .ref _ (.agg (([1, 10, 100, 1000, 10000, 100000, 1000000, 10000000, 100000000] : List Int).map fun z => Value.int .u32 z).toArray) 0 0 (.agg _ _ rfl (fun i c u hc hu => ?_) (by simp [Value.oneCell'])) fun j c hj => ?_
    · have hi : i < 9 := (List.getElem?_eq_some_iff.1 hc).1
      match i, hi, hc, hu with
      | 0, _, hc, hu => cases hc; cases hu; exact .int _ _
      | 1, _, hc, hu => cases hc; cases hu; exact .int _ _
      | 2, _, hc, hu => cases hc; cases hu; exact .int _ _
      | 3, _, hc, hu => cases hc; cases hu; exact .int _ _
      | 4, _, hc, hu => cases hc; cases hu; exact .int _ _
      | 5, _, hc, hu => cases hc; cases hu; exact .int _ _
      | 6, _, hc, hu => cases hc; cases hu; exact .int _ _
      | 7, _, hc, hu => cases hc; cases hu; exact .int _ _
      | 8, _, hc, hu => cases hc; cases hu; exact .int _ _
    · have hi : j < 9 := (Array.getElem?_eq_some_iff.1 hj).1
      refine ⟨.inl ⟨rfl, by omega⟩, ?_⟩
      rw [Nat.zero_add, hc j hi, ← hj]
      match j, hi with
      | 0, _ => rfl
      | 1, _ => rfl
      | 2, _ => rfl
      | 3, _ => rfl
      | 4, _ => rfl
      | 5, _ => rfl
      | 6, _ => rfl
      | 7, _ => rfl
      | 8, _ => rfl
  · refine .ref _ (.agg ((List.range 8).map fun k => Value.func (.func (174 + k)) #[] #[]).toArray) 1 0 (.agg _ _ rfl (fun i c u hc hu => ?_) (by simp [Value.oneCell'])) fun j c hj => ?_
    · have hi : i < 8 := (List.getElem?_eq_some_iff.1 hc).1
      match i, hi, hc, hu with
      | 0, _, hc, hu => cases hc; cases hu; exact .fn _
      | 1, _, hc, hu => cases hc; cases hu; exact .fn _
      | 2, _, hc, hu => cases hc; cases hu; exact .fn _
      | 3, _, hc, hu => cases hc; cases hu; exact .fn _
      | 4, _, hc, hu => cases hc; cases hu; exact .fn _
      | 5, _, hc, hu => cases hc; cases hu; exact .fn _
      | 6, _, hc, hu => cases hc; cases hu; exact .fn _
      | 7, _, hc, hu => cases hc; cases hu; exact .fn _
    · have hi : j < 8 := (Array.getElem?_eq_some_iff.1 hj).1
      refine ⟨.inr ⟨rfl, by omega⟩, ?_⟩
      rw [Nat.zero_add, hw j hi, ← hj]
      match j, hi with
      | 0, _ => rfl
      | 1, _ => rfl
      | 2, _ => rfl
      | 3, _ => rfl
      | 4, _ => rfl
      | 5, _ => rfl
      | 6, _ => rfl
      | 7, _ => rfl
end Go.Proofs.YtgehlcgjchfibaaGreatDoor.F

namespace Go.Proofs.YtgehlcgjchfibaaGreatDoor.F
open Go Go.ChangeShapes Go.WideShapes Go.ChangeAt Go.RowKit Go.Joins Go.Proofs

section
variable {H : Type} {enc : TypeId × Value → H} {W : World} {base b1 : Nat} {sp : Nat → Bool} {held : Bool}
theorem cells23 : Tryz.prog.cellsOf 23 = 3 := by kernel_rfl
def decD (neg : Bool) (s : ByteArray) (e : Int) : DataW H := .agg [.lit (.bool neg), .lit (.string s.data.toList), .lit (.int .i64 e)]
def decV (neg : Bool) (s : ByteArray) (e : Int) : Value := .agg #[.bool neg, .string s, .int .i64 e]
theorem dec_open {v : Value} {d : DataW H} {p : List MemPlace} (hv : Value.okWide Tryz.prog W .any base 23 v) (h : DataW.Trod enc Tryz.prog W b1 sp held 23 v d p) :
    ∃ neg s e, v = decV neg s e ∧ d = decD neg s e ∧ p = [] ∧ s.size ≤ maxLen ∧ (Lit.int .i64 e).wf = true := by
  obtain ⟨v0, v1, v2, y0, y1, y2, n, rfl, rfl, rfl, h0, h1, h2⟩ := open_agg3 Tryz.underlying23 (by kernel_rfl) cells23 hv h
  obtain ⟨neg, hc0, rfl⟩ := DataW.trod_bool Tryz.underlying4 h0
  obtain ⟨s, hc1, rfl, hs⟩ := DataW.trod_string Tryz.underlying9 h1
  obtain ⟨e, hc2, rfl, he⟩ := DataW.trod_int Tryz.underlying3 h2
  cases hc0
  cases hc1
  cases hc2
  exact ⟨neg, s, e, rfl, rfl, rfl, hs, he⟩
theorem dec_shut {neg : Bool} {s : ByteArray} {e : Int} (hs : s.size ≤ maxLen) (he : (Lit.int .i64 e).wf = true) : DataW.Trod enc Tryz.prog W b1 sp held 23 (decV neg s e) (decD neg s e) [] := by
  have := shut_agg3 (enc := enc) (P := Tryz.prog) (w := W) (base := b1) (spare := sp) (held := held) (v0 := .bool neg) (v1 := .string s) (v2 := .int .i64 e) (y0 := (.lit (.bool neg), [])) (y1 := (.lit (.string s.data.toList), [])) (y2 := (.lit (.int .i64 e), [])) Tryz.underlying23 (by kernel_rfl) cells23
    ⟨1, by simp [DataW.trod, Tryz.underlying4]⟩ ⟨1, by simp [DataW.trod, Tryz.underlying9, hs]⟩ ⟨1, by simp [DataW.trod, Tryz.underlying3, he]⟩
  exact this
theorem rel_bytes {C : Nat → Nat → Prop} {w : World} (s : ByteArray) : Rel C w (.str s.data.toList) (.string s) := .str s.data.toList
theorem rel_dec {C : Nat → Nat → Prop} {w : World} (neg : Bool) (s : ByteArray) (e : Int) : Rel C w (.agg [.bool neg, .str s.data.toList, .int .i64 e]) (decV neg s e) := by
  refine .agg _ [.bool neg, .string s, .int .i64 e] rfl (fun i c u hc hu => ?_) (by simp [Value.oneCell'])
  have hi : i < 3 := (List.getElem?_eq_some_iff.1 hc).1
  match i, hi, hc, hu with
  | 0, _, hc, hu => cases hc; cases hu; exact .bool _
  | 1, _, hc, hu => cases hc; cases hu; exact rel_bytes s
  | 2, _, hc, hu => cases hc; cases hu; exact .int _ _
end

theorem bulk_part {H : Type} {d : DataW H} {l : List (DataW H)} (h : d ∈ l) : Rows.uptoBulk d ≤ Rows.uptoBulkAll l := by
  induction l with
  | nil => cases h
  | cons x r ih =>
    simp only [Rows.uptoBulkAll]
    rcases List.mem_cons.1 h with e | e
    · subst e; omega
    · have := ih e; omega
theorem bulk_le {H : Type} {l : List (DataW H)} (hk : Rows.uptoSmall H l = true) {s : List UInt8} {d : DataW H} (h : d ∈ l) (hs : s.length ≤ Rows.uptoBulk d) : s.length ≤ 1048576 :=
  Nat.le_trans hs (Nat.le_trans (bulk_part h) (of_decide_eq_true hk))
theorem cell_lt {W : World} {b o : Nat} {v : Value} (h : W.cell? ⟨b, o, none⟩ = some v) : b < W.heap.size := by
  refine Classical.byContradiction fun hn => ?_
  have : W.heap[b]? = none := Array.getElem?_eq_none (by omega)
  simp [World.cell?, this] at h
theorem Cg_lt {W : World} (h : laidMetH Tryz.prog laid4 W) (b o : Nat) (hc : Cg b o) : b < W.heap.size := by
  obtain ⟨h1, h2⟩ := laid_parts h
  rcases hc with ⟨rfl, _⟩ | ⟨rfl, _⟩
  · exact cell_lt ((powers h1).cell gPow 0 (by decide))
  · exact cell_lt (ways h2 0 (by decide))
/-- What is said behind the call, where no argument leads anywhere: nothing older than the call has changed. -/
theorem post_true {H : Type} {enc : TypeId × Value → H} {f : Func} {s : ChangeSpec} {W W' : World} {args : Array Value} {ds : List (DataW H)}
    (hW : DataW.Whole enc Tryz.prog f.params.toList s.vars false W args.toList ds [] []) (hv : s.vars = []) (hf : s.fn H (ds ++ []) = { results := [.lit (.bool true)], args := ds }) (hr : f.resultTypes = #[4])
    (hargs : ∀ sp : Nat → Bool, DataW.TrodAll enc Tryz.prog W' 0 sp true f.params.toList args.toList ds []) (hb : Below W.heap.size W W') :
    s.post enc Tryz.prog f false true false false W args (.bool true) W' := by
  refine ⟨ds, [], [], [], [], [], hW, ?_, ?_, ?_, hb.frame _, fun h => by cases h⟩
  · rw [hf, hr]
    exact trodAll_mk1 (shut_bool Tryz.underlying4 true)
  · rw [hf]
    exact hargs _
  · rw [hf, hv]
    rfl

/-- The cells that a datum of integers lays. -/
def cellsD : DataW Unit → List Value
  | .agg ds => ds.flatMap fun
    | .lit (.int k z) => [.int k z]
    | .agg es => es.map fun
      | .lit (.int k z) => .int k z
      | _ => .bool false
    | _ => []
  | _ => []
def setC (cs : List Value) : Obj → Obj
  | .cells _ t frozen => .cells cs.toArray t frozen
  | o => o
/-- A world for the witness: the settled one, the four listed variables holding what the row lists. -/
noncomputable def laidWorld (os : Os) : World :=
  { World.holding Tryz.prog os ⟨#[], #[], []⟩ with
    heap := ((((World.holding Tryz.prog os ⟨#[], #[], []⟩).heap.modify 0 (setC (cellsD Rows.laid_figurehead_ten_powers))).modify 1 (setC ((List.range 8).map fun k => Value.func (.func (174 + k)) #[] #[]))).modify 2 (setC (cellsD Rows.laid_unicode_utf8_first))).modify 3 (setC (cellsD Rows.laid_unicode_utf8_acceptRanges)) }
theorem laid_met (os : Os) (args : Array Value) : laidMetH Tryz.prog laid4 ((laidWorld os).forCall (fun _ _ => 0) ⟨#[], args, []⟩).memory :=
  laidMetH_of_parts3 (fuel := 8) (laidMet_of_run' 8 (by kernel_rfl) (by kernel_rfl)) (by kernel_rfl) (by kernel_rfl)
end Go.Proofs.YtgehlcgjchfibaaGreatDoor.F

namespace Go.Proofs.YtgehlcgjchfibaaGreatDoor.F
open Go Go.RowKit Go.Proofs

/-- The operation k of the region rid. -/
noncomputable def regOps (rid : Nat) : Code → Option (Array Oper)
  | .region i ops _ => if i = rid then some ops else none
  | .seq a b => match regOps rid a with | some o => some o | none => regOps rid b
  | .cond _ a b => match regOps rid a with | some o => some o | none => regOps rid b
  | .block _ a => regOps rid a
  | .loop a => regOps rid a
  | .rangeFunc _ _ a b => match regOps rid a with | some o => some o | none => regOps rid b
  | _ => none
noncomputable def opOf (f : Func) (rid k : Nat) : Oper := (((f.body.bind (regOps rid)).bind (·[k]?))).getD ⟨none, .panic (.tmp 0), 0, "", #[], none⟩
@[congr] theorem rawK_cg {X : Env} {ro : Oper} {K : St → Prop} {s s' : St} {p : Prop} (ht : ((0 : Nat) = 0) = p) (h' : s = s') : rawK X ro K s = rawK X ro K s' := by rw [h']

section
variable {X : Ctx} {μ : Nat → Value} {C : Nat → Nat → Prop} {T : Nat → Option AV} {O : Nat → Option Ob} {a : Act} {w : World}

/-- A new iterator. -/
theorem InvAt.newIter (h : InvAt X μ C T O a w) {d : Nat} (hd : d < X.nt) (z : List UInt8) :
    InvAt X (updμ μ d (.pointer (some ⟨w.heap.size, 0, none⟩))) C (setF (fun t => killF d (T t)) d (some (.box d 0))) (setF O d (some (.iter z 0))) (a.put (some d) (.pointer (some ⟨w.heap.size, 0, none⟩))) (w.alloc (.stringIter ⟨z.toArray⟩ 0)) := by
  have hb := alloc_heap w (.stringIter ⟨z.toArray⟩ 0)
  have hcell : ∀ b o, C b o → (w.alloc (.stringIter ⟨z.toArray⟩ 0)).cell? ⟨b, o, none⟩ = w.cell? ⟨b, o, none⟩ := fun b o hc => cell_same (hb.block b (h.c_lt b o hc)) o
  refine h.obj hd (h.npin hd) (fun _ _ h => h) hcell (fun b o hc => ⟨Nat.lt_of_lt_of_le (h.c_lt b o hc) hb.size, (h.cw b o hc).2⟩) (h.be.below h.nw hb) ?_ (fun j c hj hc g hg => ?_) ⟨w.heap.size, by simp [updμ], rfl⟩
  · exact ⟨_, rfl, h.nw _ h.be.size, heap_alloc_new w _, fun o hc => Nat.lt_irrefl _ (h.c_lt _ o hc)⟩
  · have := (h.ob j c hc).lt g hg
    exact ⟨hb.block g this.2.1, fun _ h => h, by simp only [mblk, ne_eq, Option.some.injEq]; omega⟩
/-- An iterator that moves on. -/
theorem InvAt.movIter (h : InvAt X μ C T O a w) {i : Nat} {z : List UInt8} {pos : Nat} (hi : O i = some (.iter z pos)) {g : Nat} (hg : μ i = .pointer (some ⟨g, 0, none⟩)) (pos' : Nat) :
    InvAt X μ C T (setF O i (some (.iter z pos'))) a (w.iterAt g ⟨z.toArray⟩ pos') := by
  obtain ⟨g', hm, hg', hh, hn⟩ := h.ob i _ hi
  rw [hg] at hm
  injection hm with hm; injection hm with hm; injection hm with hm
  subst hm
  have hlt : g < w.heap.size := (Array.getElem?_eq_some_iff.1 hh).1
  refine h.upd hi ?_ (fun k hk => ?_) (by simp [World.iterAt]) ⟨rfl, rfl, rfl⟩
  · rw [hg]
    exact ⟨g, rfl, hg', Lib.iterAt_heap w g _ pos pos' hh, hn⟩
  · have : k ≠ g := fun e => hk (by rw [hg, e]; rfl)
    simp [World.iterAt, Array.getElem?_setIfInBounds, Ne.symm this]
end

theorem raw_range {ro : Oper} {T : TypeId} {x' : Operand} {x : Opd} {d : Nat} {z : List UInt8} {K : St → Prop} {s : St} (ho : ro.op = .range T x') (hd : ro.dst = some d) (hT : Tryz.prog.underlying T = some .string) (hx : compOpd x' = some x) (hv : opd e0.G s x = some (.str z))
    (hk : K (s.new d d (.iter z 0) (.box d 0))) : rawK e0 ro K s := by
  intro Y a w Q hP hG hnt ⟨μ, C, h⟩
  rw [← hG] at hv
  have hz := ((h.know false [x]).at (by simp) hx hv).str_inv
  have hdn := hnt d hd
  have hT' : Y.P.underlying T = some .string := by rw [hP]; exact hT
  refine wp_value (u := .pointer (some ⟨w.heap.size, 0, none⟩)) (w' := w.alloc (.stringIter ⟨z.toArray⟩ 0)) ?_ ⟨_, ?_, hk⟩
  · unfold execOp
    have := run_range_string (P := Y.P) w T ⟨z.toArray⟩ hT'
    simp only [ho, hz, Sem.run_bind, this, Result.andThen_ok, Sem.run_pure]
    rfl
  · rw [hd]
    exact .of_new (h.newIter hdn z)
/-- The code point at a place; how many bytes it takes. -/
def runeAt (z : List UInt8) (pos : Nat) : Nat × Nat := Utf8.decode ⟨z.toArray⟩ pos
theorem size_z (z : List UInt8) : (⟨z.toArray⟩ : ByteArray).size = z.length := by simp [ByteArray.size]
theorem get_z (z : List UInt8) (i : Nat) : (⟨z.toArray⟩ : ByteArray).get! i = z.getD i 0 := by
  simp [ByteArray.get!, List.getD_eq_getElem?_getD]; rfl
theorem runeAt_ascii {z : List UInt8} {pos : Nat} (h : (z.getD pos 0).toNat < 128) : runeAt z pos = ((z.getD pos 0).toNat, 1) := by
  unfold runeAt
  rw [Lib.decode_at, get_z]
  unfold Lib.decodeN
  rw [if_pos h]
theorem runeAt_big {z : List UInt8} {pos : Nat} (h : 128 ≤ (z.getD pos 0).toNat) : 128 ≤ (runeAt z pos).1 := by
  unfold runeAt
  rw [Lib.decode_at, get_z]
  unfold Lib.decodeN
  repeat' split
  all_goals (try simp only) <;> omega
theorem raw_next {ro : Oper} {x' : Operand} {x : Opd} {d i : Nat} {z : List UInt8} {pos : Nat} {K : St → Prop} {s : St} (ho : ro.op = .next x' true) (hd : ro.dst = some d) (hx : compOpd x' = some x) (hv : opd e0.G s x = some (.box i 0)) (hi : look s.o i = some (.iter z pos)) (hp : pos < z.length)
    (hk : K ((s.upd i (.iter z (pos + (runeAt z pos).2))).put d (.tup [.bool true, .int .i64 pos, .int .i32 (runeAt z pos).1]))) : rawK e0 ro K s := by
  intro Y a w Q hP hG hnt ⟨μ, C, h⟩
  rw [← hG] at hv
  obtain ⟨g, hm, hu⟩ := (h.know false [x]).at (by simp) hx hv
  have hdn := hnt d hd
  obtain ⟨g', hm', hg', hh, hn⟩ := h.ob i _ hi
  rw [hm] at hm'
  injection hm' with hm'; injection hm' with hm'; injection hm' with hm'
  subst hm'
  refine wp_value (u := .tuple #[.bool true, .int .i64 pos, .int .i32 (runeAt z pos).1]) (w' := w.iterAt g ⟨z.toArray⟩ (pos + (runeAt z pos).2)) ?_ ⟨_, ?_, hk⟩
  · unfold execOp
    have := Lib.run_next_any_at (P := Y.P) w g ⟨z.toArray⟩ pos ro.type hh (by rw [size_z]; exact hp)
    simp only [ho, hu, Sem.run_bind, this, Result.andThen_ok, Sem.run_pure]
    rfl
  · have h2 := h.movIter hi hm (pos + (runeAt z pos).2)
    rw [hd]
    refine ⟨μ, C, ?_⟩
    exact h2.put hdn (.of_rel (.tup _ _ rfl fun k c u hc hu => by
      match k, hc, hu with
      | 0, hc, hu => simp at hc hu; subst hc hu; exact .bool _
      | 1, hc, hu => simp at hc hu; subst hc hu; exact .int _ _
      | 2, hc, hu => simp at hc hu; subst hc hu; exact .int _ _
      | k + 3, hc, hu => simp at hc))
theorem raw_next_end {ro : Oper} {x' : Operand} {x : Opd} {d i : Nat} {z : List UInt8} {pos : Nat} {K : St → Prop} {s : St} (ho : ro.op = .next x' true) (hd : ro.dst = some d) (hx : compOpd x' = some x) (hv : opd e0.G s x = some (.box i 0)) (hi : look s.o i = some (.iter z pos)) (hp : ¬ pos < z.length)
    (hk : K (s.put d (.tup [.bool false]))) : rawK e0 ro K s := by
  intro Y a w Q hP hG hnt ⟨μ, C, h⟩
  rw [← hG] at hv
  obtain ⟨g, hm, hu⟩ := (h.know false [x]).at (by simp) hx hv
  have hdn := hnt d hd
  obtain ⟨g', hm', hg', hh, hn⟩ := h.ob i _ hi
  rw [hm] at hm'
  injection hm' with hm'; injection hm' with hm'; injection hm' with hm'
  subst hm'
  refine wp_value (u := .tuple #[.bool false]) (w' := w) ?_ ⟨_, ?_, hk⟩
  · unfold execOp
    have := Lib.run_next_end_at (P := Y.P) w g ⟨z.toArray⟩ pos ro.type hh (by rw [size_z]; exact hp)
    simp only [ho, hu, Sem.run_bind, this, Result.andThen_ok, Sem.run_pure]
  · rw [hd]
    refine ⟨μ, C, ?_⟩
    exact h.put hdn (.of_rel (.tup _ _ rfl fun k c u hc hu => by
      match k, hc, hu with
      | 0, hc, hu => simp at hc hu; subst hc hu; exact .bool _
      | k + 1, hc, hu => simp at hc))

theorem raw_alloc {ro : Oper} {T : TypeId} {d : Nat} {us : List Value} {cs : List AV} {K : St → Prop} {s : St} (ho : ro.op = .alloc T) (hd : ro.dst = some d) (hT : (Tryz.prog.info? T).map (·.zero) = some (some (.agg us.toArray))) (hz : okCells cs us = true)
    (hk : K (s.new d d (.box T cs) (.box d 0))) : rawK e0 ro K s := by
  intro Y a w Q hP hG hnt ⟨μ, C, h⟩
  have hdn := hnt d hd
  obtain ⟨i, hi, hzv⟩ := Option.map_eq_some_iff.1 hT
  have hi' : Y.P.info? T = some i := by rw [hP]; exact hi
  obtain ⟨hr, h1⟩ := okCells_rel (C := C) (w := w) hz
  refine wp_value (u := .pointer (some ⟨w.heap.size, 0, none⟩)) (w' := w.alloc (.cells us.toArray T)) ?_ ⟨_, ?_, hk⟩
  · unfold execOp
    simp [ho, Instr.alloc, zeroValue, run_typeInfo w hi', hzv, newVar, newRow, Value.cells]
  · rw [hd]
    exact .of_new (h.newBox hdn hr h1)

/-- A box of the call's own that is written no more. -/
theorem InvAt.shut {X : Ctx} {μ : Nat → Value} {C : Nat → Nat → Prop} {s : St} {a : Act} {w : World} (h : InvAt X μ C (look s.t) (look s.o) a w) {i : Nat} {Ty : TypeId} {cs : List AV} (hi : look s.o i = some (.box Ty cs)) {g : Nat} (hg : μ i = .pointer (some ⟨g, 0, none⟩)) :
    InvAt X μ (fun b o => C b o ∨ b = g) (look (killT i s.t)) (look (dropO i s.o)) a w := by
  have hlt := (h.ob i _ hi).lt g (by rw [hg]; rfl)
  have hC : ∀ b o, C b o → (C b o ∨ b = g) := fun b o hc => .inl hc
  refine ⟨fun t x ht => ?_, fun j c hj => ?_, fun j k c d hj hk' hne => h.ap j k c d (look_dropO hj).1 (look_dropO hk').1 hne, fun b o hc => ?_, fun b o hc => .inl (h.c0 b o hc), h.gr.mono hC (fun _ _ _ => rfl), h.be, h.sz, h.df, h.nw, h.pn, h.nb⟩
  · rw [look_killT] at ht
    cases hl : look s.t t with
    | none => rw [hl] at ht; cases ht
    | some y =>
      rw [hl] at ht
      simp only [killF, Option.some.injEq] at ht
      obtain ⟨u, h1, h2⟩ := h.tm t y hl
      split at ht
      · subst ht
        exact ⟨u, h1, h2.mono hC (fun _ _ _ => rfl)⟩
      · subst ht
        exact ⟨u, h1, .top u⟩
  · obtain ⟨hl, hne⟩ := look_dropO hj
    refine (h.ob j c hl).kept hC (fun _ _ _ => rfl) fun g' hg' => ⟨rfl, fun o hc => hc.resolve_right fun he => ?_⟩
    subst he
    rcases h.ap i j _ c hi hl (Ne.symm hne) with h1 | h1
    · rw [hg] at h1; cases h1
    · exact h1 (by rw [hg']; rw [hg]; rfl)
  · rcases hc with hc | hc
    · exact h.cw b o hc
    · subst hc; exact ⟨hlt.2.1, .inr hlt.1⟩
theorem raw_arr {ro : Oper} {T e : TypeId} {x' : Operand} {x : Opd} {d i n : Nat} {Ty : TypeId} {cs : List AV} {K : St → Prop} {s : St} (ho : ro.op = .slice T x' none none none) (hd : ro.dst = some d) (hT : Tryz.prog.underlying T = some (.array n e)) (he : (Tryz.prog.info? e).isSome = true)
    (hx : compOpd x' = some x) (hv : opd e0.G s x = some (.box i 0)) (hi : look s.o i = some (.box Ty cs)) (hn : cs.length = n) (h1 : ∀ c ∈ cs, c.one = true)
    (hk : K ⟨(d, .sl 1 cs) :: killT i s.t, dropO i s.o⟩) : rawK e0 ro K s := by
  intro Y a w Q hP hG hnt ⟨μ, C, h⟩
  rw [← hG] at hv
  obtain ⟨g, hm, hu⟩ := (h.know false [x]).at (by simp) hx hv
  have hdn := hnt d hd
  obtain ⟨g', us, hm', hg', hh, hr, ho1, hno⟩ := h.ob i _ hi
  rw [hm] at hm'
  injection hm' with hm'; injection hm' with hm'; injection hm' with hm'
  subst hm'
  obtain ⟨ii, hii⟩ := Option.isSome_iff_exists.1 he
  have hii' : Y.P.info? e = some ii := by rw [hP]; exact hii
  have hT' : Y.P.underlying T = some (.array n e) := by rw [hP]; exact hT
  have hul : us.length = cs.length := hr.1.symm
  refine wp_value (u := .slice (some ⟨g, 0, none⟩) n n) (w' := w) ?_ ⟨_, ?_, hk⟩
  · unfold execOp
    have hb : ∀ (W : World), (Instr.sliceBounds false n n none none none).run Y.P W = .ok (0, n, n) W := by
      intro W
      simp [Instr.sliceBounds]
    have : (Instr.sliceAt T (.pointer (some ⟨g, 0, none⟩)) none none none).run Y.P w = .ok (.slice (some ⟨g, 0, none⟩) n n) w := by
      simp only [Instr.sliceAt, Sem.run_bind, run_underlying hT', Result.andThen_ok, Instr.sureAddr, Sem.run_pure, hb, run_sizeOf w hii', Nat.sub_zero, Nat.zero_mul]
      split <;> simp [Addr.add]
    simp only [ho, hu, Option.map_none, Sem.run_bind, this, Result.andThen_ok, Sem.run_pure]
  · have h2 := h.shut hi hm
    rw [hd]
    refine ⟨μ, fun b o => C b o ∨ b = g, ?_⟩
    rw [look_cons]
    refine h2.put hdn (.of_rel ?_)
    have := Rel.sl (C := fun b o => C b o ∨ b = g) (w := w) 1 cs g 0 n (fun k => us.getD k undef) (by omega)
      (fun k x hx => by
        have hk : k < us.length := by rw [hul]; exact (List.getElem?_eq_some_iff.1 hx).1
        simp only [List.getD_eq_getElem?_getD, List.getElem?_eq_getElem hk, Option.getD_some]
        exact (hr.2 k x _ hx (List.getElem?_eq_getElem hk)).mono (fun _ _ h => .inl h) (fun _ _ _ => rfl))
      (fun k hk => by
        have hk' : k < us.length := by omega
        simp only [List.getD_eq_getElem?_getD, List.getElem?_eq_getElem hk', Option.getD_some]
        have hone := (hr.2 k cs[k] us[k] (List.getElem?_eq_getElem hk) (List.getElem?_eq_getElem hk')).one (h1 _ (List.getElem_mem hk))
        rw [hone.2]
        exact ⟨rfl, fun c hc => by simp at hc; subst hc; exact hone.1⟩)
      (fun k j c hk hj => by
        have hk' : k < us.length := by omega
        simp only [List.getD_eq_getElem?_getD, List.getElem?_eq_getElem hk', Option.getD_some] at hj
        have hone := (hr.2 k cs[k] us[k] (List.getElem?_eq_getElem hk) (List.getElem?_eq_getElem hk')).one (h1 _ (List.getElem_mem hk))
        rw [hone.2] at hj
        have hj0 : j = 0 := by have := (Array.getElem?_eq_some_iff.1 hj).1; simp at this; omega
        subst hj0
        have hc : c = us[k] := by simpa using hj.symm
        refine ⟨.inr rfl, ?_⟩
        rw [hc]
        have := box_cells hh k us[k] (List.getElem?_eq_getElem hk')
        simpa using this)
    rwa [hn] at this
set_option linter.defProp false in
def wkA := And.intro @VC_skip <| And.intro @VC_reg0 <| And.intro @VC_reg1 <| And.intro @VC_seq <| And.intro @VC_cond <| And.intro @VC_block <| And.intro @VC_loop <| And.intro @VC_exit <| And.intro @VC_ret <| And.intro @grd_tt <| And.intro @grd_tf <| And.intro @grd_ft <| And.intro @grd_ff <| And.intro @grd_no <| And.intro @cnd_t <| And.intro @cnd_f <| And.intro @thenQ.eq_1 <| And.intro @thenQ.eq_2 <| And.intro @blockQ.eq_1 <| And.intro @blockQ.eq_2 <| And.intro @kpQ.eq_1 <| And.intro @ER_nil <| And.intro @ER_op <| And.intro @ER_grd <| And.intro @E1.eq_1 <| And.intro @ERD_nil <| And.intro @ERD_op <| And.intro @ERD_grd <| And.intro @E1D.eq_1 <| And.intro @fresh.eq_1 <| And.intro @fresh.eq_2 <| And.intro @IOp.isNew.eq_1 <| And.intro @IOp.isNew.eq_2 <| And.intro @IOp.isNew.eq_3 <| And.intro @IOp.isNew.eq_4 <| And.intro @okR.eq_1 <| And.intro @okR.eq_2 <| And.intro @okR.eq_3 <| And.intro @okR.eq_4 <| And.intro @okW.eq_1 <| And.intro @okW.eq_2 <| And.intro @okW.eq_3 <| And.intro @St.norm.eq_1 <| And.intro @St.norm.eq_2 <| And.intro @St.norm.eq_3 <| And.intro @St.frz.eq_1 <| And.intro @frzT.eq_1 <| And.intro @dropO.eq_1 <| And.intro @IOp.vals.eq_1 <| And.intro @IOp.vals.eq_2 <| And.intro @IOp.vals.eq_3 <| And.intro @IOp.vals.eq_4 <| And.intro @IOp.vals.eq_5 <| And.intro @IOp.vals.eq_6 <| And.intro @IOp.vals.eq_7 <| And.intro @IOp.vals.eq_8 <| And.intro @IOp.vals.eq_9 <| And.intro @IOp.vals.eq_10 <| And.intro @IOp.vals.eq_11 <| And.intro @IOp.opds.eq_1 <| And.intro @IOp.opds.eq_2 <| And.intro @IOp.opds.eq_3 <| And.intro @IOp.opds.eq_4 <| And.intro @IOp.opds.eq_5 <| And.intro @IOp.opds.eq_6 <| And.intro @IOp.opds.eq_7 <| And.intro @IOp.opds.eq_8 <| And.intro @IOp.opds.eq_9 <| And.intro @IOp.opds.eq_10 <| And.intro @IOp.opds.eq_11 <| And.intro @IOp.opds.eq_12 <| And.intro @IOp.opds.eq_13 <| And.intro @IOp.opds.eq_14 <| And.intro @IOp.opds.eq_15 <| And.intro @IOp.opds.eq_16 <| And.intro @IOp.opds.eq_17 <| And.intro @IOp.opds.eq_18 <| And.intro @IOp.opds.eq_19 <| And.intro @IOp.opds.eq_20 <| And.intro @IOp.opds.eq_21 <| And.intro @IOp.opds.eq_22 <| And.intro @IOp.opds.eq_23 <| And.intro @IOp.opds.eq_24 <| And.intro @IOp.opds.eq_25 <| And.intro @IOp.opds.eq_26 <| And.intro @IOp.opds.eq_27 <| And.intro @IOp.opds.eq_28 <| And.intro @IOp.opds.eq_29 <| And.intro @IOp.opds.eq_30 <| And.intro @pureV.eq_1 <| And.intro @pureV.eq_2 <| And.intro @pureV.eq_3 <| And.intro @pureV.eq_4 <| And.intro @pureV.eq_5 <| And.intro @pureV.eq_6 <| And.intro @pureV.eq_7 <| And.intro @pureV.eq_8 <| And.intro @pureV.eq_9 <| And.intro @pureV.eq_10 <| And.intro @pureV.eq_11 <| And.intro @pureV.eq_12 <| And.intro @pureV.eq_13 <| And.intro @pureV.eq_14 <| And.intro @pureV.eq_15 <| And.intro @pureV.eq_16 <| And.intro @pureV.eq_17 <| And.intro @pureV.eq_18 <| And.intro @pureV.eq_19 <| And.intro @pureV.eq_20 <| And.intro @pureV.eq_21 <| And.intro @pureV.eq_22 <| And.intro @opd_t <| And.intro @opd_c <| And.intro @opd_g <| And.intro @val.eq_1 <| And.intro @AV.vok.eq_1 <| And.intro @AV.vok.eq_2 <| And.intro @AV.vok.eq_3 <| And.intro @AV.vok.eq_4 <| And.intro @AV.vok.eq_5 <| And.intro @AV.vok.eq_6 <| And.intro @argV.eq_1 <| And.intro @argV.eq_2 <| And.intro @valsV.eq_1 <| And.intro @valsV.eq_2 <| And.intro @look_n <| And.intro @look_c <| And.intro @argT.eq_1 <| And.intro @argT.eq_2 <| And.intro @St.putD.eq_1 <| And.intro @St.putD.eq_2 <| And.intro @St.put.eq_1 <| And.intro @St.new.eq_1 <| And.intro @St.newD.eq_1 <| And.intro @St.upd.eq_1 <| And.intro @killT.eq_1 <| And.intro @AV.nid.eq_1 <| And.intro @AV.nid.eq_2 <| And.intro @AV.nid.eq_3 <| And.intro @AV.nid.eq_4 <| And.intro @St.keep.eq_1 <| And.intro @keepT.eq_1 <| And.intro @keepO.eq_1 <| And.intro @List.filterMap_cons.{0, 0} <| And.intro @List.filterMap_nil.{0, 0} <| And.intro @List.map_cons.{0, 0} <| And.intro @List.map_nil.{0, 0} <| And.intro @List.all_cons.{0} <| And.intro @List.all_nil.{0} <| And.intro @List.filter_cons.{0} <| And.intro @List.filter_nil.{0} <| And.intro @Option.map_some.{0, 0} <| And.intro @Option.map_none.{0, 0} <| And.intro @avCells.eq_1 <| And.intro @avCells.eq_2 <| And.intro @cut.eq_1 <| And.intro @cut.eq_2 <| And.intro @splice.eq_1 <| And.intro @fillAV.eq_1 <| And.intro @fillAV.eq_2 <| And.intro @binV.eq_1 <| And.intro @binV.eq_2 <| And.intro @binV.eq_3 <| And.intro @binV.eq_4 <| And.intro @binV.eq_5 <| And.intro @binV.eq_6 <| And.intro @binV.eq_7 <| And.intro @binV.eq_8 <| And.intro @binV.eq_9 <| And.intro @binV.eq_10 <| And.intro @binV.eq_11 <| And.intro @binV.eq_12 <| And.intro @binV.eq_13 <| And.intro @binV.eq_14 <| And.intro @binV.eq_15 <| And.intro @binV.eq_16 <| And.intro @binV.eq_17 <| And.intro @binV.eq_18 <| And.intro @binV.eq_19 <| And.intro @binV.eq_20 <| And.intro @binV.eq_21 <| And.intro @binV.eq_22 <| And.intro @binV.eq_23 <| And.intro @binV.eq_24 <| And.intro @loV.eq_1 <| And.intro @loV.eq_2 <| And.intro @hiV.eq_1 <| And.intro @hiV.eq_2 <| And.intro @retQ.eq_1 <| And.intro @retQ.eq_2 <| And.intro @retQ.eq_3 <| And.intro @retV.eq_1 <| And.intro @retV.eq_2 <| And.intro @retV.eq_3 <| And.intro @resOpds.eq_1 <| And.intro @tupV.eq_1 <| And.intro @tupV.eq_2 <| And.intro @AV.plain.eq_1 <| And.intro @AV.plain.eq_2 <| And.intro @AV.plain.eq_3 <| And.intro @AV.plain.eq_4 <| And.intro @AV.one.eq_1 <| And.intro @AV.one.eq_2 <| And.intro @AV.one.eq_3 <| And.intro @AV.one.eq_4 <| And.intro @szOf.eq_1 <| And.intro @szOf.eq_2 <| And.intro @Option.toList.eq_1.{0} <| And.intro @Option.toList.eq_2.{0} <| And.intro @ne_eq.{1} <| And.intro @true_and <| And.intro @and_true <| And.intro @and_self <| And.intro @if_true.{1} <| And.intro @if_false.{1} <| And.intro @ite_true.{1} <| And.intro @ite_false.{1} <| And.intro @Bool.false_eq_true <| And.intro @Bool.true_eq_false <| And.intro @Bool.and_true <| And.intro @Bool.true_and <| And.intro @Bool.and_self <| And.intro @List.take_succ_cons.{0} <| And.intro @List.take_zero.{0} <| And.intro @List.drop_succ_cons.{0} <| And.intro @List.drop_zero.{0} <| And.intro @List.cons_append.{0} <| And.intro @List.nil_append.{0} <| And.intro @List.append_nil.{0} <| And.intro @List.length_cons.{0} <| And.intro @List.length_nil.{0} <| And.intro @Nat.zero_add <| And.intro @Nat.add_zero <| And.intro @List.getElem?_cons_zero.{0} <| And.intro @List.getElem?_cons_succ.{0} <| And.intro @Option.isNone_none.{0} <| And.intro @Option.isNone_some.{0} <| And.intro @not_false_eq_true <| And.intro @not_true_eq_false <| And.intro @g0 <| And.intro @g1 <| And.intro @pinned.eq_1 <| And.intro @retM.eq_1 <| And.intro @retM.eq_2 <| And.intro @retM.eq_3 <| And.intro @Hint.isAny.eq_1 <| And.intro @Hint.isAny.eq_2 <| And.intro @refOk.eq_1 <| @refOk.eq_2

noncomputable def ic130_1 : IC := (.reg [⟨(some 22), (.bin .add none (.t 11) (.c (.int .i64 1))), none, .any⟩, ⟨(some 11), (.mv (.t 22)), none, .any⟩] false [0, 3, 9, 10, 11] [])
noncomputable def ic130_2 : IC := (.seq (.block 1 (.seq (.reg [⟨(some 13), (.ia 1 (.t 9) (.t 11)), none, .any⟩, ⟨(some 14), (.ld none (.t 13)), none, .any⟩, ⟨(some 5), (.mv (.t 14)), none, .any⟩] false [0, 3, 5, 9, 10, 11] []) (.seq (.reg [⟨(some 15), (.mv (.t 3)), none, .any⟩, ⟨(some 16), (.mv (.t 5)), none, .any⟩, ⟨(some 17), (.len false (.t 16)), none, .any⟩, ⟨(some 18), (.bin .add none (.t 15) (.t 17)), none, .any⟩, ⟨(some 3), (.mv (.t 18)), none, .any⟩] false [0, 3, 9, 10, 11] []) (.seq (.reg [⟨(some 19), (.mv (.t 3)), none, .any⟩, ⟨(some 20), (.bin .lss none (.t 19) (.c (.int .i64 0))), none, .any⟩] false [0, 3, 9, 10, 11, 20] []) (.cond (.t 20) (.reg [⟨(some 21), (.raw (opOf Tryz.f130 7 0)), none, (.at 130 7 0)⟩, ⟨none, (.raw (opOf Tryz.f130 7 1)), none, (.at 130 7 1)⟩] false [0, 3, 9, 10, 11] []) .skip))))) ic130_1)
noncomputable def ic130_3 : IC := (.seq (.reg [⟨(some 12), (.bin .lss none (.t 11) (.t 10)), none, .any⟩] false [0, 3, 9, 10, 11, 12] []) (.seq (.cond (.t 12) .skip (.exit 0)) ic130_2))
noncomputable def ic130_4 : IC := (.seq (.block 3 (.seq (.reg [⟨(some 29), (.ia 1 (.t 25) (.t 27)), none, .any⟩, ⟨(some 30), (.ld none (.t 29)), none, .any⟩, ⟨(some 8), (.mv (.t 30)), none, .any⟩] false [6, 8, 25, 26, 27] [33]) (.reg [⟨(some 31), (.mv (.t 6)), none, .any⟩, ⟨(some 32), (.mv (.t 8)), none, .any⟩, ⟨(some 33), (.app 80 2 16 (.t 31) (.t 32)), none, .any⟩, ⟨(some 6), (.mv (.t 33)), none, .any⟩] false [6, 25, 26, 27] [33]))) (.reg [⟨(some 34), (.bin .add none (.t 27) (.c (.int .i64 1))), none, .any⟩, ⟨(some 27), (.mv (.t 34)), none, .any⟩] false [6, 25, 26, 27] [33]))
noncomputable def ic130_5 : IC := (.seq (.reg [⟨(some 28), (.bin .lss none (.t 27) (.t 26)), none, .any⟩] false [6, 25, 26, 27, 28] [33]) (.seq (.cond (.t 28) .skip (.exit 2)) ic130_4))
noncomputable def ic130_6 : IC := (.seq (.reg [⟨(some 35), (.mv (.t 6)), none, .any⟩, ⟨(some 2), (.mv (.t 35)), none, .any⟩] false [2] [33]) .ret)
noncomputable def ic130_7 : IC := (.seq (.reg [⟨(some 23), (.mv (.t 3)), none, .any⟩, ⟨(some 24), (.raw (opOf Tryz.f130 9 1)), none, (.at 130 9 1)⟩, ⟨(some 6), (.mv (.t 24)), none, .any⟩] false [0, 6] [33]) (.seq (.seq (.reg [⟨(some 25), (.mv (.t 0)), none, .any⟩, ⟨(some 26), (.len false (.t 25)), none, .any⟩, ⟨(some 27), (.mv (.c (.int .i64 0))), none, .any⟩] false [6, 25, 26, 27] [33]) (.block 2 (.loop ic130_5))) ic130_6))
noncomputable def ic130 : IC := (.seq (.reg [⟨(some 2), (.mv (.c .nil)), none, .any⟩] false [0] []) (.seq (.reg [⟨(some 3), (.mv (.c (.int .i64 0))), none, .any⟩] false [0, 3] []) (.seq (.seq (.reg [⟨(some 9), (.mv (.t 0)), none, .any⟩, ⟨(some 10), (.len false (.t 9)), none, .any⟩, ⟨(some 11), (.mv (.c (.int .i64 0))), none, .any⟩] false [0, 3, 9, 10, 11] []) (.block 0 (.loop ic130_3))) ic130_7)))
def kp130 : List (Nat × Keep) := [(0, ⟨[0], [], []⟩),
  (1, ⟨[0, 3], [], []⟩),
  (2, ⟨[0, 3, 9, 10, 11], [], []⟩),
  (3, ⟨[0, 3, 9, 10, 11, 12], [], []⟩),
  (4, ⟨[0, 3, 5, 9, 10, 11], [], []⟩),
  (5, ⟨[0, 3, 9, 10, 11], [], []⟩),
  (6, ⟨[0, 3, 9, 10, 11, 20], [], []⟩),
  (7, ⟨[0, 3, 9, 10, 11], [], [(0, .at 130 7 0), (1, .at 130 7 1)]⟩),
  (8, ⟨[0, 3, 9, 10, 11], [], []⟩),
  (9, ⟨[0, 6], [33], [(1, .at 130 9 1)]⟩),
  (10, ⟨[6, 25, 26, 27], [33], []⟩),
  (11, ⟨[6, 25, 26, 27, 28], [33], []⟩),
  (12, ⟨[6, 8, 25, 26, 27], [33], []⟩),
  (13, ⟨[6, 25, 26, 27], [33], []⟩),
  (14, ⟨[6, 25, 26, 27], [33], []⟩),
  (15, ⟨[2], [33], []⟩)]
theorem c130 : (Tryz.f130.body.bind fun c => compC Tryz.prog 36 [2000146] kp130 c) = some ic130 := by kernel_rfl
theorem e130 {args : List AV} {r : AV} (ha : args.length ≤ 36) (h : VC e0 ic130 (retQ [(2, none)] r) ⟨argT 0 args, []⟩) : Fn 130 args r := fn_of Tryz.func130 rfl (by kernel_rfl) c130 ha (by decide) h


def ic36_1 : IC := (.seq (.reg [⟨(some 41), (.ld (some 3) (.t 6)), none, .any⟩, ⟨(some 42), (.mv (.t 5)), none, .any⟩, ⟨(some 43), (.neg (.t 42)), none, .any⟩, ⟨(some 44), (.call 43 [((.t 41), none), ((.t 43), none)]), none, .any⟩, ⟨none, (.st 3 (.t 4) (.t 44)), none, .any⟩] false [4] [4]) .ret)
def ic36 : IC := (.seq (.reg [⟨(some 2), (.box 26 (.t 0)), none, .any⟩, ⟨(some 3), (.box 23 (.t 1)), none, .any⟩, ⟨(some 4), (.alloc 23 [(.bool false), (.str []), (.int .i64 0)]), none, .any⟩] false [2, 3, 4] [2, 3, 4]) (.seq (.reg [⟨(some 9), (.ld (some 20) (.t 2)), none, .any⟩, ⟨(some 10), (.call 41 [((.t 9), none)]), none, .any⟩, ⟨(some 5), (.mv (.t 10)), none, .any⟩] false [2, 3, 4, 5] [2, 3, 4]) (.seq (.reg [⟨(some 11), (.fa 8 none (.t 2)), none, .any⟩, ⟨(some 12), (.ld none (.t 11)), none, .any⟩, ⟨(some 13), (.neg (.t 12)), none, .any⟩, ⟨(some 14), (.build [(.bool false), (.str []), (.int .i64 0)] [(1, (1, (.c (.str [49])))), (2, (1, (.t 13)))]), none, .any⟩, ⟨(some 6), (.alloc 23 [(.bool false), (.str []), (.int .i64 0)]), none, .any⟩, ⟨none, (.st 3 (.t 6) (.t 14)), none, .any⟩] false [2, 3, 4, 5, 6] [2, 3, 4, 6]) (.seq (.block 0 (.seq (.reg [⟨(some 16), (.fa 14 none (.t 2)), none, .any⟩, ⟨(some 17), (.ld none (.t 16)), none, .any⟩, ⟨(some 18), (.mv (.t 17)), none, .any⟩, ⟨(some 19), (.fa 9 none (.t 2)), (some (18, false)), .any⟩, ⟨(some 20), (.ld none (.t 19)), (some (18, false)), .any⟩, ⟨(some 21), (.bin .gtr none (.t 20) (.c (.int .i64 0))), (some (18, false)), .any⟩, ⟨(some 22), (.pick (.t 18) (.c (.bool true)) (.t 21)), none, .any⟩, ⟨(some 15), (.mv (.t 22)), none, .any⟩] false [2, 3, 4, 5, 6, 15] [2, 3, 4, 6]) (.cond (.t 15) (.seq (.reg [⟨(some 24), (.ld (some 20) (.t 2)), none, .any⟩, ⟨(some 25), (.call 24 [((.t 24), none)]), none, .any⟩, ⟨(some 23), (.mv (.t 25)), none, .any⟩, ⟨(some 26), (.ext (.t 23) 0), none, .any⟩, ⟨(some 27), (.ext (.t 23) 1), none, .any⟩, ⟨(some 7), (.mv (.t 26)), none, .any⟩, ⟨(some 8), (.mv (.t 27)), none, .any⟩] false [3, 4, 5, 6, 8] [3, 4, 6]) (.reg [⟨(some 28), (.ld (some 3) (.t 3)), none, .any⟩, ⟨(some 29), (.mv (.t 5)), none, .any⟩, ⟨(some 30), (.call 43 [((.t 28), none), ((.t 29), none)]), none, .any⟩, ⟨(some 31), (.mv (.t 8)), none, .any⟩, ⟨(some 32), (.call 61 [((.t 30), none), ((.t 31), none)]), none, .any⟩, ⟨(some 33), (.fa 2 none (.t 6)), none, .any⟩, ⟨none, (.st 1 (.t 33) (.t 32)), none, .any⟩] false [4, 5, 6] [4, 6])) (.seq (.reg [⟨(some 35), (.fa 13 none (.t 2)), none, .any⟩, ⟨(some 36), (.ld none (.t 35)), none, .any⟩, ⟨(some 37), (.bin .neq none (.t 36) (.c (.str []))), none, .any⟩, ⟨(some 34), (.mv (.t 37)), none, .any⟩] false [2, 4, 5, 6, 34] [2, 4, 6]) (.cond (.t 34) (.reg [⟨(some 38), (.fa 13 none (.t 2)), none, .any⟩, ⟨(some 39), (.ld none (.t 38)), none, .any⟩, ⟨(some 40), (.fa 1 none (.t 6)), none, .any⟩, ⟨none, (.st 1 (.t 40) (.t 39)), none, .any⟩] false [4, 5, 6] [4, 6]) .skip))))) ic36_1))))
def kp36 : List (Nat × Keep) := [(0, ⟨[2, 3, 4], [2, 3, 4], []⟩),
  (1, ⟨[2, 3, 4, 5], [2, 3, 4], []⟩),
  (2, ⟨[2, 3, 4, 5, 6], [2, 3, 4, 6], []⟩),
  (3, ⟨[2, 3, 4, 5, 6, 15], [2, 3, 4, 6], []⟩),
  (4, ⟨[3, 4, 5, 6, 8], [3, 4, 6], []⟩),
  (5, ⟨[4, 5, 6], [4, 6], []⟩),
  (6, ⟨[2, 4, 5, 6, 34], [2, 4, 6], []⟩),
  (7, ⟨[4, 5, 6], [4, 6], []⟩),
  (8, ⟨[4], [4], []⟩)]
theorem c36 : (Tryz.f36.body.bind fun c => compC Tryz.prog 45 [] kp36 c) = some ic36 := by kernel_rfl
theorem e36 {args : List AV} {r : AV} (ha : args.length ≤ 45) (h : VC e0 ic36 (retQ [(4, (some (some 3)))] r) ⟨argT 0 args, []⟩) : Fn 36 args r := fn_of Tryz.func36 rfl (by kernel_rfl) c36 ha (by decide) h


def ic37 : IC := (.seq (.reg [⟨(some 2), (.box 23 (.t 0)), none, .any⟩, ⟨(some 3), (.box 23 (.t 1)), none, .any⟩, ⟨(some 4), (.alloc 23 [(.bool false), (.str []), (.int .i64 0)]), none, .any⟩] false [2, 3, 4] [2, 3, 4]) (.seq (.reg [⟨(some 5), (.ld (some 3) (.t 2)), none, .any⟩, ⟨(some 6), (.ld (some 3) (.t 3)), none, .any⟩, ⟨(some 7), (.call 63 [((.t 5), none), ((.t 6), none)]), none, .any⟩, ⟨(some 8), (.call 62 [((.t 7), none)]), none, .any⟩, ⟨none, (.st 3 (.t 4) (.t 8)), none, .any⟩] false [4] [4]) .ret))
def kp37 : List (Nat × Keep) := [(0, ⟨[2, 3, 4], [2, 3, 4], []⟩),
  (1, ⟨[4], [4], []⟩)]
theorem c37 : (Tryz.f37.body.bind fun c => compC Tryz.prog 9 [] kp37 c) = some ic37 := by kernel_rfl
theorem e37 {args : List AV} {r : AV} (ha : args.length ≤ 9) (h : VC e0 ic37 (retQ [(4, (some (some 3)))] r) ⟨argT 0 args, []⟩) : Fn 37 args r := fn_of Tryz.func37 rfl (by kernel_rfl) c37 ha (by decide) h


def ic38 : IC := (.seq (.reg [⟨(some 2), (.mv (.c (.bool false))), none, .any⟩] false [0] []) (.seq (.reg [⟨(some 3), (.mv (.t 0)), none, .any⟩, ⟨(some 4), (.bin .geq none (.t 3) (.c (.int .i64 0))), none, .any⟩, ⟨(some 5), (.mv (.t 4)), none, .any⟩, ⟨(some 6), (.mv (.t 0)), (some (5, true)), .any⟩, ⟨(some 7), (.bin .lss none (.t 6) (.c (.int .i64 8))), (some (5, true)), .any⟩, ⟨(some 8), (.pick (.t 5) (.t 7) (.c (.bool false))), none, .any⟩, ⟨(some 2), (.mv (.t 8)), none, .any⟩] false [2] []) .ret))
def kp38 : List (Nat × Keep) := [(0, ⟨[0], [], []⟩),
  (1, ⟨[2], [], []⟩)]
theorem c38 : (Tryz.f38.body.bind fun c => compC Tryz.prog 9 [] kp38 c) = some ic38 := by kernel_rfl
theorem e38 {args : List AV} {r : AV} (ha : args.length ≤ 9) (h : VC e0 ic38 (retQ [(2, none)] r) ⟨argT 0 args, []⟩) : Fn 38 args r := fn_of Tryz.func38 rfl (by kernel_rfl) c38 ha (by decide) h

def ic39_1 : IC := (.seq (.reg [⟨(some 20), (.fa 1 none (.t 1)), none, .any⟩, ⟨(some 21), (.ld none (.t 20)), none, .any⟩, ⟨(some 22), (.call 64 [((.t 21), none)]), none, .any⟩, ⟨(some 19), (.mv (.t 22)), none, .any⟩, ⟨(some 23), (.ext (.t 19) 0), none, .any⟩, ⟨(some 24), (.ext (.t 19) 1), none, .any⟩, ⟨(some 3), (.mv (.t 23)), none, .any⟩, ⟨(some 4), (.mv (.t 24)), none, .any⟩] false [4] []) (.seq (.reg [⟨(some 25), (.mv (.t 4)), none, .any⟩, ⟨(some 2), (.mv (.t 25)), none, .any⟩] false [2] []) .ret))
def ic39 : IC := (.seq (.reg [⟨(some 1), (.box 23 (.t 0)), none, .any⟩, ⟨(some 2), (.mv (.c (.bool false))), none, .any⟩] false [1] [1]) (.seq (.seq (.reg [⟨(some 5), (.fa 1 none (.t 1)), none, .any⟩, ⟨(some 6), (.ld none (.t 5)), none, .any⟩, ⟨(some 7), (.len true (.t 6)), none, .any⟩, ⟨(some 8), (.bin .gtr none (.t 7) (.c (.int .i64 1000))), none, .any⟩, ⟨(some 9), (.mv (.t 8)), none, .any⟩, ⟨(some 10), (.fa 2 none (.t 1)), (some (9, false)), .any⟩, ⟨(some 11), (.ld none (.t 10)), (some (9, false)), .any⟩, ⟨(some 12), (.bin .lss none (.t 11) (.c (.int .i64 (-1000)))), (some (9, false)), .any⟩, ⟨(some 13), (.pick (.t 9) (.c (.bool true)) (.t 12)), none, .any⟩, ⟨(some 14), (.mv (.t 13)), none, .any⟩, ⟨(some 15), (.fa 2 none (.t 1)), (some (14, false)), .any⟩, ⟨(some 16), (.ld none (.t 15)), (some (14, false)), .any⟩, ⟨(some 17), (.bin .gtr none (.t 16) (.c (.int .i64 1000))), (some (14, false)), .any⟩, ⟨(some 18), (.pick (.t 14) (.c (.bool true)) (.t 17)), none, .any⟩] false [1, 18] [1]) (.cond (.t 18) (.seq (.reg [⟨(some 2), (.mv (.c (.bool false))), none, .any⟩] false [2] []) .ret) .skip)) ic39_1))
def kp39 : List (Nat × Keep) := [(0, ⟨[1], [1], []⟩),
  (1, ⟨[1, 18], [1], []⟩),
  (2, ⟨[2], [], []⟩),
  (3, ⟨[4], [], []⟩),
  (4, ⟨[2], [], []⟩)]
theorem c39 : (Tryz.f39.body.bind fun c => compC Tryz.prog 26 [] kp39 c) = some ic39 := by kernel_rfl
theorem e39 {args : List AV} {r : AV} (ha : args.length ≤ 26) (h : VC e0 ic39 (retQ [(2, none)] r) ⟨argT 0 args, []⟩) : Fn 39 args r := fn_of Tryz.func39 rfl (by kernel_rfl) c39 ha (by decide) h


def ic40 : IC := (.seq (.reg [⟨(some 1), (.box 23 (.t 0)), none, .any⟩, ⟨(some 2), (.mv (.c (.bool false))), none, .any⟩] false [1] [1]) (.seq (.reg [⟨(some 3), (.ld (some 3) (.t 1)), none, .any⟩, ⟨(some 4), (.call 65 [((.t 3), none)]), none, .any⟩, ⟨none, (.st 3 (.t 1) (.t 4)), none, .any⟩] false [1] [1]) (.seq (.reg [⟨(some 5), (.fa 1 none (.t 1)), none, .any⟩, ⟨(some 6), (.ld none (.t 5)), none, .any⟩, ⟨(some 7), (.bin .eql none (.t 6) (.c (.str [48]))), none, .any⟩, ⟨(some 8), (.mv (.t 7)), none, .any⟩, ⟨(some 9), (.fa 2 none (.t 1)), (some (8, false)), .any⟩, ⟨(some 10), (.ld none (.t 9)), (some (8, false)), .any⟩, ⟨(some 11), (.bin .geq none (.t 10) (.c (.int .i64 (-300)))), (some (8, false)), .any⟩, ⟨(some 12), (.mv (.t 11)), (some (8, false)), .any⟩, ⟨(some 13), (.ld (some 3) (.t 1)), (some (12, true)), .any⟩, ⟨(some 14), (.call 66 [((.t 13), none)]), (some (12, true)), .any⟩, ⟨(some 15), (.bin .lss none (.t 14) (.c (.int .i64 300))), (some (12, true)), .any⟩, ⟨(some 16), (.pick (.t 12) (.t 15) (.c (.bool false))), (some (8, false)), .any⟩, ⟨(some 17), (.pick (.t 8) (.c (.bool true)) (.t 16)), none, .any⟩, ⟨(some 2), (.mv (.t 17)), none, .any⟩] false [2] []) .ret)))
def kp40 : List (Nat × Keep) := [(0, ⟨[1], [1], []⟩),
  (1, ⟨[1], [1], []⟩),
  (2, ⟨[2], [], []⟩)]
theorem c40 : (Tryz.f40.body.bind fun c => compC Tryz.prog 18 [] kp40 c) = some ic40 := by kernel_rfl
theorem e40 {args : List AV} {r : AV} (ha : args.length ≤ 18) (h : VC e0 ic40 (retQ [(2, none)] r) ⟨argT 0 args, []⟩) : Fn 40 args r := fn_of Tryz.func40 rfl (by kernel_rfl) c40 ha (by decide) h

def ic41_1 : IC := (.seq (.reg [⟨(some 2), (.mv (.c (.int .i64 0))), none, .any⟩] false [2] []) .ret)
def ic41 : IC := (.seq (.reg [⟨(some 1), (.box 26 (.t 0)), none, .any⟩, ⟨(some 2), (.mv (.c (.int .i64 0))), none, .any⟩] false [1] [1]) (.seq (.block 0 (.seq (.reg [⟨(some 4), (.ld (some 20) (.t 1)), none, .any⟩, ⟨(some 5), (.call 67 [((.t 4), none), ((.c (.int .i64 4)), none)]), none, .any⟩, ⟨(some 3), (.mv (.t 5)), none, .any⟩] false [1, 3] [1]) (.cond (.t 3) (.seq (.reg [⟨(some 2), (.mv (.c (.int .i64 2))), none, .any⟩] false [2] []) .ret) (.seq (.reg [⟨(some 7), (.ld (some 20) (.t 1)), none, .any⟩, ⟨(some 8), (.call 67 [((.t 7), none), ((.c (.int .i64 5)), none)]), none, .any⟩, ⟨(some 6), (.mv (.t 8)), none, .any⟩] false [6] []) (.cond (.t 6) (.seq (.reg [⟨(some 2), (.mv (.c (.int .i64 3))), none, .any⟩] false [2] []) .ret) .skip))))) ic41_1))
def kp41 : List (Nat × Keep) := [(0, ⟨[1], [1], []⟩),
  (1, ⟨[1, 3], [1], []⟩),
  (2, ⟨[2], [], []⟩),
  (3, ⟨[6], [], []⟩),
  (4, ⟨[2], [], []⟩),
  (5, ⟨[2], [], []⟩)]
theorem c41 : (Tryz.f41.body.bind fun c => compC Tryz.prog 9 [] kp41 c) = some ic41 := by kernel_rfl
theorem e41 {args : List AV} {r : AV} (ha : args.length ≤ 9) (h : VC e0 ic41 (retQ [(2, none)] r) ⟨argT 0 args, []⟩) : Fn 41 args r := fn_of Tryz.func41 rfl (by kernel_rfl) c41 ha (by decide) h

def ic42_1 : IC := (.seq (.reg [⟨(some 43), (.mv (.t 1)), none, .any⟩, ⟨(some 44), (.ld (some 3) (.t 5)), none, .any⟩, ⟨(some 45), (.fa 8 none (.t 3)), none, .any⟩, ⟨(some 46), (.ld none (.t 45)), none, .any⟩, ⟨(some 47), (.neg (.t 46)), none, .any⟩, ⟨(some 48), (.call 69 [((.t 43), none), ((.t 44), none), ((.t 47), none)]), none, .any⟩, ⟨(some 49), (.ext (.t 48) 0), none, .any⟩, ⟨(some 50), (.ext (.t 48) 1), none, .any⟩, ⟨none, (.st 3 (.t 6) (.t 49)), none, .any⟩, ⟨(some 7), (.mv (.t 50)), none, .any⟩] false [6, 7] [6]) .ret)
def ic42 : IC := (.seq (.reg [⟨(some 3), (.box 26 (.t 0)), none, .any⟩, ⟨(some 5), (.box 23 (.t 2)), none, .any⟩, ⟨(some 6), (.alloc 23 [(.bool false), (.str []), (.int .i64 0)]), none, .any⟩, ⟨(some 7), (.mv (.c (.int .i64 0))), none, .any⟩] false [1, 3, 5, 6] [3, 5, 6]) (.seq (.block 0 (.seq (.reg [⟨(some 11), (.fa 14 none (.t 3)), none, .any⟩, ⟨(some 12), (.ld none (.t 11)), none, .any⟩, ⟨(some 13), (.mv (.t 12)), none, .any⟩, ⟨(some 14), (.fa 9 none (.t 3)), (some (13, false)), .any⟩, ⟨(some 15), (.ld none (.t 14)), (some (13, false)), .any⟩, ⟨(some 16), (.bin .gtr none (.t 15) (.c (.int .i64 0))), (some (13, false)), .any⟩, ⟨(some 17), (.pick (.t 13) (.c (.bool true)) (.t 16)), none, .any⟩, ⟨(some 10), (.mv (.t 17)), none, .any⟩] false [1, 3, 5, 6, 10] [3, 5, 6]) (.cond (.t 10) (.seq (.reg [⟨(some 19), (.ld (some 20) (.t 3)), none, .any⟩, ⟨(some 20), (.call 24 [((.t 19), none)]), none, .any⟩, ⟨(some 18), (.mv (.t 20)), none, .any⟩, ⟨(some 21), (.ext (.t 18) 0), none, .any⟩, ⟨(some 22), (.ext (.t 18) 1), none, .any⟩, ⟨(some 8), (.mv (.t 21)), none, .any⟩, ⟨(some 9), (.mv (.t 22)), none, .any⟩] false [1, 5, 6, 9] [5, 6]) (.seq (.reg [⟨(some 23), (.mv (.t 1)), none, .any⟩, ⟨(some 24), (.ld (some 3) (.t 5)), none, .any⟩, ⟨(some 25), (.mv (.t 9)), none, .any⟩, ⟨(some 26), (.call 68 [((.t 23), none), ((.t 24), none), ((.t 25), none)]), none, .any⟩, ⟨(some 27), (.ext (.t 26) 0), none, .any⟩, ⟨(some 28), (.ext (.t 26) 1), none, .any⟩, ⟨none, (.st 3 (.t 6) (.t 27)), none, .any⟩, ⟨(some 7), (.mv (.t 28)), none, .any⟩] false [6, 7] [6]) .ret)) (.seq (.reg [⟨(some 30), (.fa 13 none (.t 3)), none, .any⟩, ⟨(some 31), (.ld none (.t 30)), none, .any⟩, ⟨(some 32), (.bin .neq none (.t 31) (.c (.str []))), none, .any⟩, ⟨(some 29), (.mv (.t 32)), none, .any⟩] false [1, 3, 5, 6, 29] [3, 5, 6]) (.cond (.t 29) (.seq (.reg [⟨(some 33), (.mv (.t 1)), none, .any⟩, ⟨(some 34), (.ld (some 3) (.t 5)), none, .any⟩, ⟨(some 35), (.fa 13 none (.t 3)), none, .any⟩, ⟨(some 36), (.ld none (.t 35)), none, .any⟩, ⟨(some 37), (.fa 8 none (.t 3)), none, .any⟩, ⟨(some 38), (.ld none (.t 37)), none, .any⟩, ⟨(some 39), (.neg (.t 38)), none, .any⟩, ⟨(some 40), (.call 45 [((.t 33), none), ((.t 34), none), ((.t 36), none), ((.t 39), none)]), none, .any⟩, ⟨(some 41), (.ext (.t 40) 0), none, .any⟩, ⟨(some 42), (.ext (.t 40) 1), none, .any⟩, ⟨none, (.st 3 (.t 6) (.t 41)), none, .any⟩, ⟨(some 7), (.mv (.t 42)), none, .any⟩] false [6, 7] [6]) .ret) .skip))))) ic42_1))
def kp42 : List (Nat × Keep) := [(0, ⟨[1, 3, 5, 6], [3, 5, 6], []⟩),
  (1, ⟨[1, 3, 5, 6, 10], [3, 5, 6], []⟩),
  (2, ⟨[1, 5, 6, 9], [5, 6], []⟩),
  (3, ⟨[6, 7], [6], []⟩),
  (4, ⟨[1, 3, 5, 6, 29], [3, 5, 6], []⟩),
  (5, ⟨[6, 7], [6], []⟩),
  (6, ⟨[6, 7], [6], []⟩)]
theorem c42 : (Tryz.f42.body.bind fun c => compC Tryz.prog 51 [] kp42 c) = some ic42 := by kernel_rfl
theorem e42 {args : List AV} {r : AV} (ha : args.length ≤ 51) (h : VC e0 ic42 (retQ [(6, (some (some 3))), (7, none)] r) ⟨argT 0 args, []⟩) : Fn 42 args r := fn_of Tryz.func42 rfl (by kernel_rfl) c42 ha (by decide) h


def ic43 : IC := (.seq (.reg [⟨(some 2), (.box 23 (.t 0)), none, .any⟩, ⟨(some 4), (.alloc 23 [(.bool false), (.str []), (.int .i64 0)]), none, .any⟩] false [1, 2, 4] [2, 4]) (.seq (.reg [⟨(some 5), (.fa 2 none (.t 2)), none, .any⟩, ⟨(some 6), (.ld none (.t 5)), none, .any⟩, ⟨(some 7), (.mv (.t 1)), none, .any⟩, ⟨(some 8), (.bin .add none (.t 6) (.t 7)), none, .any⟩, ⟨(some 9), (.fa 2 none (.t 2)), none, .any⟩, ⟨none, (.st 1 (.t 9) (.t 8)), none, .any⟩] false [2, 4] [2, 4]) (.seq (.reg [⟨(some 10), (.ld (some 3) (.t 2)), none, .any⟩, ⟨(some 11), (.call 65 [((.t 10), none)]), none, .any⟩, ⟨none, (.st 3 (.t 4) (.t 11)), none, .any⟩] false [4] [4]) .ret)))
def kp43 : List (Nat × Keep) := [(0, ⟨[1, 2, 4], [2, 4], []⟩),
  (1, ⟨[2, 4], [2, 4], []⟩),
  (2, ⟨[4], [4], []⟩)]
theorem c43 : (Tryz.f43.body.bind fun c => compC Tryz.prog 12 [] kp43 c) = some ic43 := by kernel_rfl
theorem e43 {args : List AV} {r : AV} (ha : args.length ≤ 12) (h : VC e0 ic43 (retQ [(4, (some (some 3)))] r) ⟨argT 0 args, []⟩) : Fn 43 args r := fn_of Tryz.func43 rfl (by kernel_rfl) c43 ha (by decide) h


def ic44 : IC := (.seq (.reg [⟨(some 1), (.box 23 (.t 0)), none, .any⟩, ⟨(some 2), (.mv (.c (.int .i64 0))), none, .any⟩] false [1] [1]) (.seq (.reg [⟨(some 3), (.ld (some 3) (.t 1)), none, .any⟩, ⟨(some 4), (.call 65 [((.t 3), none)]), none, .any⟩, ⟨(some 5), (.fld 1 none (.t 4)), none, .any⟩, ⟨(some 6), (.len true (.t 5)), none, .any⟩, ⟨(some 2), (.mv (.t 6)), none, .any⟩] false [2] []) .ret))
def kp44 : List (Nat × Keep) := [(0, ⟨[1], [1], []⟩),
  (1, ⟨[2], [], []⟩)]
theorem c44 : (Tryz.f44.body.bind fun c => compC Tryz.prog 7 [] kp44 c) = some ic44 := by kernel_rfl
theorem e44 {args : List AV} {r : AV} (ha : args.length ≤ 7) (h : VC e0 ic44 (retQ [(2, none)] r) ⟨argT 0 args, []⟩) : Fn 44 args r := fn_of Tryz.func44 rfl (by kernel_rfl) c44 ha (by decide) h

def ic45_1 : IC := (.seq (.reg [⟨(some 93), (.fa 0 none (.t 5)), none, .any⟩, ⟨(some 94), (.ld none (.t 93)), none, .any⟩, ⟨(some 95), (.mv (.t 13)), none, .any⟩, ⟨(some 96), (.mv (.t 10)), none, .any⟩, ⟨(some 97), (.call 77 [((.t 95), (some 1)), ((.t 96), (some 1))]), none, .any⟩, ⟨(some 98), (.call 76 [((.t 97), (some 1))]), none, .any⟩, ⟨(some 99), (.mv (.t 12)), none, .any⟩, ⟨(some 100), (.build [(.bool false), (.str []), (.int .i64 0)] [(0, (1, (.t 94))), (1, (1, (.t 98))), (2, (1, (.t 99)))]), none, .any⟩, ⟨(some 101), (.call 65 [((.t 100), none)]), none, .any⟩, ⟨none, (.st 3 (.t 8) (.t 101)), none, .any⟩, ⟨(some 9), (.mv (.c (.int .i64 0))), none, .any⟩] true [8, 9] [8]) .ret)
def ic45_2 : IC := (.seq (.seq (.reg [⟨(some 71), (.mv (.t 0)), none, .any⟩, ⟨(some 72), (.fa 0 none (.t 5)), none, .any⟩, ⟨(some 73), (.ld none (.t 72)), none, .any⟩, ⟨(some 74), (.mv (.t 13)), none, .any⟩, ⟨(some 75), (.len false (.t 74)), none, .any⟩, ⟨(some 76), (.bin .gtr none (.t 75) (.c (.int .i64 0))), none, .any⟩, ⟨(some 77), (.mv (.t 76)), none, .any⟩, ⟨(some 78), (.mv (.t 13)), (some (77, true)), .any⟩, ⟨(some 79), (.ia 1 (.t 78) (.c (.int .i64 0))), (some (77, true)), .any⟩, ⟨(some 80), (.ld none (.t 79)), (some (77, true)), .any⟩, ⟨(some 81), (.bin .rem none (.t 80) (.c (.int .u32 2))), (some (77, true)), .any⟩, ⟨(some 82), (.bin .eql none (.t 81) (.c (.int .u32 1))), (some (77, true)), .any⟩, ⟨(some 83), (.pick (.t 77) (.t 82) (.c (.bool false))), none, .any⟩, ⟨(some 84), (.mv (.t 14)), none, .any⟩, ⟨(some 85), (.mv (.t 14)), none, .any⟩, ⟨(some 86), (.call 75 [((.t 84), (some 1)), ((.t 85), (some 1))]), none, .any⟩, ⟨(some 87), (.mv (.t 10)), none, .any⟩, ⟨(some 88), (.call 74 [((.t 86), (some 1)), ((.t 87), (some 1))]), none, .any⟩, ⟨(some 89), (.call 73 [((.t 71), none), ((.t 73), none), ((.t 83), none), ((.t 88), none)]), none, .any⟩] true [5, 8, 10, 12, 13, 89] [5, 8]) (.cond (.t 89) (.reg [⟨(some 90), (.mv (.t 13)), none, .any⟩, ⟨(some 91), (.lit false 94 1 [(.c (.int .u32 1))]), none, .any⟩, ⟨(some 92), (.call 75 [((.t 90), (some 1)), ((.t 91), (some 1))]), none, .any⟩, ⟨(some 13), (.mv (.t 92)), none, .any⟩] false [5, 8, 10, 12, 13] [5, 8]) .skip)) ic45_1)
def ic45_3 : IC := (.seq (.reg [⟨(some 39), (.fa 2 none (.t 5)), none, .any⟩, ⟨(some 40), (.ld none (.t 39)), none, .any⟩, ⟨(some 41), (.mv (.t 3)), none, .any⟩, ⟨(some 42), (.mn (.t 40) (.t 41)), none, .any⟩, ⟨(some 12), (.mv (.t 42)), none, .any⟩] false [0, 3, 5, 8, 10, 12] [5, 8]) (.seq (.reg [⟨(some 43), (.mv (.t 10)), none, .any⟩, ⟨(some 44), (.mv (.t 3)), none, .any⟩, ⟨(some 45), (.mv (.t 12)), none, .any⟩, ⟨(some 46), (.bin .sub none (.t 44) (.t 45)), none, .any⟩, ⟨(some 47), (.call 70 [((.t 43), (some 1)), ((.t 46), none)]), none, .any⟩, ⟨(some 10), (.mv (.t 47)), none, .any⟩] false [0, 5, 8, 10, 12] [5, 8]) (.seq (.reg [⟨(some 49), (.ld (some 3) (.t 5)), none, .any⟩, ⟨(some 50), (.call 72 [((.t 49), none)]), none, .any⟩, ⟨(some 51), (.fa 2 none (.t 5)), none, .any⟩, ⟨(some 52), (.ld none (.t 51)), none, .any⟩, ⟨(some 53), (.mv (.t 12)), none, .any⟩, ⟨(some 54), (.bin .sub none (.t 52) (.t 53)), none, .any⟩, ⟨(some 55), (.call 70 [((.t 50), (some 1)), ((.t 54), none)]), none, .any⟩, ⟨(some 56), (.mv (.t 10)), none, .any⟩, ⟨(some 57), (.call 71 [((.t 55), (some 1)), ((.t 56), (some 1))]), none, .any⟩, ⟨(some 48), (.mv (.t 57)), none, .any⟩, ⟨(some 58), (.ext (.t 48) 0), none, .any⟩, ⟨(some 59), (.ext (.t 48) 1), none, .any⟩, ⟨(some 60), (.ext (.t 48) 2), none, .any⟩, ⟨(some 13), (.mv (.t 58)), none, .any⟩, ⟨(some 14), (.mv (.t 59)), none, .any⟩, ⟨(some 15), (.mv (.t 60)), none, .any⟩] true [0, 5, 8, 10, 12, 13, 14] [5, 8]) (.seq (.block 0 (.seq (.reg [⟨(some 62), (.mv (.t 14)), none, .any⟩, ⟨(some 63), (.len false (.t 62)), none, .any⟩, ⟨(some 64), (.bin .eql none (.t 63) (.c (.int .i64 0))), none, .any⟩, ⟨(some 61), (.mv (.t 64)), none, .any⟩] false [0, 5, 8, 10, 12, 13, 14, 61] [5, 8]) (.cond (.t 61) (.seq (.reg [⟨(some 65), (.ld (some 3) (.t 5)), none, .any⟩, ⟨(some 66), (.call 65 [((.t 65), none)]), none, .any⟩, ⟨none, (.st 3 (.t 8) (.t 66)), none, .any⟩, ⟨(some 9), (.mv (.c (.int .i64 0))), none, .any⟩] false [8, 9] [8]) .ret) (.seq (.reg [⟨(some 68), (.mv (.t 0)), none, .any⟩, ⟨(some 69), (.bin .eql none (.t 68) (.c (.int .i64 7))), none, .any⟩, ⟨(some 67), (.mv (.t 69)), none, .any⟩] false [0, 5, 8, 10, 12, 13, 14, 67] [5, 8]) (.cond (.t 67) (.seq (.reg [⟨(some 70), (.build [(.bool false), (.str []), (.int .i64 0)] []), none, .any⟩, ⟨none, (.st 3 (.t 8) (.t 70)), none, .any⟩, ⟨(some 9), (.mv (.c (.int .i64 11))), none, .any⟩] false [8, 9] [8]) .ret) .skip))))) ic45_2))))
def ic45 : IC := (.seq (.reg [⟨(some 5), (.box 23 (.t 1)), none, .any⟩, ⟨(some 8), (.alloc 23 [(.bool false), (.str []), (.int .i64 0)]), none, .any⟩, ⟨(some 9), (.mv (.c (.int .i64 0))), none, .any⟩] false [0, 2, 3, 5, 8] [5, 8]) (.seq (.reg [⟨(some 17), (.mv (.t 2)), none, .any⟩, ⟨(some 18), (.call 64 [((.t 17), none)]), none, .any⟩, ⟨(some 16), (.mv (.t 18)), none, .any⟩, ⟨(some 19), (.ext (.t 16) 0), none, .any⟩, ⟨(some 20), (.ext (.t 16) 1), none, .any⟩, ⟨(some 10), (.mv (.t 19)), none, .any⟩, ⟨(some 11), (.mv (.t 20)), none, .any⟩] false [0, 2, 3, 5, 8, 10, 11] [5, 8]) (.seq (.seq (.reg [⟨(some 21), (.mv (.t 0)), none, .any⟩, ⟨(some 22), (.call 38 [((.t 21), none)]), none, .any⟩, ⟨(some 23), (.not (.t 22)), none, .any⟩, ⟨(some 24), (.mv (.t 23)), none, .any⟩, ⟨(some 25), (.mv (.t 11)), (some (24, false)), .any⟩, ⟨(some 26), (.not (.t 25)), (some (24, false)), .any⟩, ⟨(some 27), (.pick (.t 24) (.c (.bool true)) (.t 26)), none, .any⟩, ⟨(some 28), (.mv (.t 27)), none, .any⟩, ⟨(some 29), (.mv (.t 2)), (some (28, false)), .any⟩, ⟨(some 30), (.len true (.t 29)), (some (28, false)), .any⟩, ⟨(some 31), (.bin .gtr none (.t 30) (.c (.int .i64 40))), (some (28, false)), .any⟩, ⟨(some 32), (.pick (.t 28) (.c (.bool true)) (.t 31)), none, .any⟩, ⟨(some 33), (.mv (.t 32)), none, .any⟩, ⟨(some 34), (.mv (.t 10)), (some (33, false)), .any⟩, ⟨(some 35), (.len false (.t 34)), (some (33, false)), .any⟩, ⟨(some 36), (.bin .eql none (.t 35) (.c (.int .i64 0))), (some (33, false)), .any⟩, ⟨(some 37), (.pick (.t 33) (.c (.bool true)) (.t 36)), none, .any⟩] false [0, 3, 5, 8, 10, 37] [5, 8]) (.cond (.t 37) (.seq (.reg [⟨(some 38), (.build [(.bool false), (.str []), (.int .i64 0)] []), none, .any⟩, ⟨none, (.st 3 (.t 8) (.t 38)), none, .any⟩, ⟨(some 9), (.mv (.c (.int .i64 1))), none, .any⟩] false [8, 9] [8]) .ret) .skip)) ic45_3)))
def kp45 : List (Nat × Keep) := [(0, ⟨[0, 2, 3, 5, 8], [5, 8], []⟩),
  (1, ⟨[0, 2, 3, 5, 8, 10, 11], [5, 8], []⟩),
  (2, ⟨[0, 3, 5, 8, 10, 37], [5, 8], []⟩),
  (3, ⟨[8, 9], [8], []⟩),
  (4, ⟨[0, 3, 5, 8, 10, 12], [5, 8], []⟩),
  (5, ⟨[0, 5, 8, 10, 12], [5, 8], []⟩),
  (6, ⟨[0, 5, 8, 10, 12, 13, 14], [5, 8], []⟩),
  (7, ⟨[0, 5, 8, 10, 12, 13, 14, 61], [5, 8], []⟩),
  (8, ⟨[8, 9], [8], []⟩),
  (9, ⟨[0, 5, 8, 10, 12, 13, 14, 67], [5, 8], []⟩),
  (10, ⟨[8, 9], [8], []⟩),
  (11, ⟨[5, 8, 10, 12, 13, 89], [5, 8], []⟩),
  (12, ⟨[5, 8, 10, 12, 13], [5, 8], []⟩),
  (13, ⟨[8, 9], [8], []⟩)]
theorem c45 : (Tryz.f45.body.bind fun c => compC Tryz.prog 102 [] kp45 c) = some ic45 := by kernel_rfl
theorem e45 {args : List AV} {r : AV} (ha : args.length ≤ 102) (h : VC e0 ic45 (retQ [(8, (some (some 3))), (9, none)] r) ⟨argT 0 args, []⟩) : Fn 45 args r := fn_of Tryz.func45 rfl (by kernel_rfl) c45 ha (by decide) h

def ic46_1 : IC := (.seq (.reg [⟨(some 12), (.ld (some 3) (.t 2)), none, .any⟩, ⟨(some 13), (.mv (.t 1)), none, .any⟩, ⟨(some 14), (.call 78 [((.t 12), none), ((.t 13), none)]), none, .any⟩, ⟨(some 11), (.mv (.t 14)), none, .any⟩, ⟨(some 15), (.ext (.t 11) 0), none, .any⟩, ⟨(some 16), (.ext (.t 11) 1), none, .any⟩, ⟨(some 5), (.mv (.t 15)), none, .any⟩, ⟨(some 6), (.mv (.t 16)), none, .any⟩] false [6] []) (.seq (.reg [⟨(some 17), (.mv (.t 6)), none, .any⟩, ⟨(some 18), (.len false (.t 17)), none, .any⟩, ⟨(some 19), (.bin .eql none (.t 18) (.c (.int .i64 0))), none, .any⟩, ⟨(some 4), (.mv (.t 19)), none, .any⟩] false [4] []) .ret))
def ic46 : IC := (.seq (.reg [⟨(some 2), (.box 23 (.t 0)), none, .any⟩, ⟨(some 4), (.mv (.c (.bool false))), none, .any⟩] false [1, 2] [2]) (.seq (.seq (.reg [⟨(some 7), (.mv (.t 1)), none, .any⟩, ⟨(some 8), (.fa 2 none (.t 2)), none, .any⟩, ⟨(some 9), (.ld none (.t 8)), none, .any⟩, ⟨(some 10), (.bin .leq none (.t 7) (.t 9)), none, .any⟩] false [1, 2, 10] [2]) (.cond (.t 10) (.seq (.reg [⟨(some 4), (.mv (.c (.bool true))), none, .any⟩] false [4] []) .ret) .skip)) ic46_1))
def kp46 : List (Nat × Keep) := [(0, ⟨[1, 2], [2], []⟩),
  (1, ⟨[1, 2, 10], [2], []⟩),
  (2, ⟨[4], [], []⟩),
  (3, ⟨[6], [], []⟩),
  (4, ⟨[4], [], []⟩)]
theorem c46 : (Tryz.f46.body.bind fun c => compC Tryz.prog 20 [] kp46 c) = some ic46 := by kernel_rfl
theorem e46 {args : List AV} {r : AV} (ha : args.length ≤ 20) (h : VC e0 ic46 (retQ [(4, none)] r) ⟨argT 0 args, []⟩) : Fn 46 args r := fn_of Tryz.func46 rfl (by kernel_rfl) c46 ha (by decide) h



def ic54_1 : IC := (.cond (.t 3) (.seq (.reg [⟨(some 2), (.mv (.c (.int .i64 1))), none, .any⟩] false [2] []) .ret) .skip)
def ic54_2 : IC := (.seq (.reg [⟨(some 20), (.fa 5 none (.t 1)), none, .any⟩, ⟨(some 21), (.ld none (.t 20)), none, .any⟩, ⟨(some 2), (.mv (.t 21)), none, .any⟩] false [2] []) .ret)
def ic54 : IC := (.seq (.reg [⟨(some 1), (.box 26 (.t 0)), none, .any⟩, ⟨(some 2), (.mv (.c (.int .i64 0))), none, .any⟩] false [1] [1]) (.seq (.block 0 (.seq (.seq (.reg [⟨(some 4), (.fa 9 none (.t 1)), none, .any⟩, ⟨(some 5), (.ld none (.t 4)), none, .any⟩, ⟨(some 6), (.bin .gtr none (.t 5) (.c (.int .i64 0))), none, .any⟩, ⟨(some 3), (.mv (.t 6)), none, .any⟩] false [1, 3] [1]) (.cond (.t 3) .skip (.seq (.reg [⟨(some 7), (.ld (some 20) (.t 1)), none, .any⟩, ⟨(some 8), (.call 26 [((.t 7), none)]), none, .any⟩, ⟨(some 9), (.mv (.t 8)), none, .any⟩, ⟨(some 10), (.fa 5 none (.t 1)), (some (9, true)), .any⟩, ⟨(some 11), (.ld none (.t 10)), (some (9, true)), .any⟩, ⟨(some 12), (.bin .eql none (.t 11) (.c (.int .i64 0))), (some (9, true)), .any⟩, ⟨(some 13), (.pick (.t 9) (.t 12) (.c (.bool false))), none, .any⟩, ⟨(some 3), (.mv (.t 13)), none, .any⟩] false [1, 3] [1]) (.cond (.t 3) .skip (.reg [⟨(some 14), (.fa 5 none (.t 1)), none, .any⟩, ⟨(some 15), (.ld none (.t 14)), none, .any⟩, ⟨(some 16), (.fa 8 none (.t 1)), none, .any⟩, ⟨(some 17), (.ld none (.t 16)), none, .any⟩, ⟨(some 18), (.bin .add none (.t 15) (.t 17)), none, .any⟩, ⟨(some 19), (.bin .eql none (.t 18) (.c (.int .i64 0))), none, .any⟩, ⟨(some 3), (.mv (.t 19)), none, .any⟩] false [1, 3] [1]))))) ic54_1)) ic54_2))
def kp54 : List (Nat × Keep) := [(0, ⟨[1], [1], []⟩),
  (1, ⟨[1, 3], [1], []⟩),
  (2, ⟨[1, 3], [1], []⟩),
  (3, ⟨[1, 3], [1], []⟩),
  (4, ⟨[2], [], []⟩),
  (5, ⟨[2], [], []⟩)]
theorem c54 : (Tryz.f54.body.bind fun c => compC Tryz.prog 22 [] kp54 c) = some ic54 := by kernel_rfl
theorem e54 {args : List AV} {r : AV} (ha : args.length ≤ 22) (h : VC e0 ic54 (retQ [(2, none)] r) ⟨argT 0 args, []⟩) : Fn 54 args r := fn_of Tryz.func54 rfl (by kernel_rfl) c54 ha (by decide) h


def ic61 : IC := (.seq (.reg [⟨(some 2), (.box 23 (.t 0)), none, .any⟩, ⟨(some 4), (.mv (.c (.int .i64 0))), none, .any⟩] false [1, 2] [2]) (.seq (.reg [⟨(some 5), (.ld (some 3) (.t 2)), none, .any⟩, ⟨(some 6), (.call 66 [((.t 5), none)]), none, .any⟩, ⟨(some 7), (.mv (.t 1)), none, .any⟩, ⟨(some 8), (.mx (.t 7) (.c (.int .i64 1))), none, .any⟩, ⟨(some 9), (.bin .sub none (.t 6) (.t 8)), none, .any⟩, ⟨(some 10), (.bin .add none (.t 9) (.c (.int .i64 1))), none, .any⟩, ⟨(some 4), (.mv (.t 10)), none, .any⟩] false [4] []) .ret))
def kp61 : List (Nat × Keep) := [(0, ⟨[1, 2], [2], []⟩),
  (1, ⟨[4], [], []⟩)]
theorem c61 : (Tryz.f61.body.bind fun c => compC Tryz.prog 11 [] kp61 c) = some ic61 := by kernel_rfl
theorem e61 {args : List AV} {r : AV} (ha : args.length ≤ 11) (h : VC e0 ic61 (retQ [(4, none)] r) ⟨argT 0 args, []⟩) : Fn 61 args r := fn_of Tryz.func61 rfl (by kernel_rfl) c61 ha (by decide) h


def ic62 : IC := (.seq (.reg [⟨(some 1), (.box 23 (.t 0)), none, .any⟩, ⟨(some 2), (.alloc 23 [(.bool false), (.str []), (.int .i64 0)]), none, .any⟩] false [1, 2] [1, 2]) (.seq (.reg [⟨(some 3), (.fa 0 none (.t 1)), none, .any⟩, ⟨none, (.st 1 (.t 3) (.c (.bool false))), none, .any⟩] false [1, 2] [1, 2]) (.seq (.reg [⟨(some 4), (.ld (some 3) (.t 1)), none, .any⟩, ⟨(some 5), (.call 65 [((.t 4), none)]), none, .any⟩, ⟨none, (.st 3 (.t 2) (.t 5)), none, .any⟩] false [2] [2]) .ret)))
def kp62 : List (Nat × Keep) := [(0, ⟨[1, 2], [1, 2], []⟩),
  (1, ⟨[1, 2], [1, 2], []⟩),
  (2, ⟨[2], [2], []⟩)]
theorem c62 : (Tryz.f62.body.bind fun c => compC Tryz.prog 6 [] kp62 c) = some ic62 := by kernel_rfl
theorem e62 {args : List AV} {r : AV} (ha : args.length ≤ 6) (h : VC e0 ic62 (retQ [(2, (some (some 3)))] r) ⟨argT 0 args, []⟩) : Fn 62 args r := fn_of Tryz.func62 rfl (by kernel_rfl) c62 ha (by decide) h


def ic63 : IC := (.seq (.reg [⟨(some 2), (.box 23 (.t 0)), none, .any⟩, ⟨(some 3), (.box 23 (.t 1)), none, .any⟩, ⟨(some 4), (.alloc 23 [(.bool false), (.str []), (.int .i64 0)]), none, .any⟩] false [2, 3, 4] [2, 3, 4]) (.seq (.reg [⟨(some 5), (.fa 0 none (.t 3)), none, .any⟩, ⟨(some 6), (.ld none (.t 5)), none, .any⟩, ⟨(some 7), (.not (.t 6)), none, .any⟩, ⟨(some 8), (.fa 0 none (.t 3)), none, .any⟩, ⟨none, (.st 1 (.t 8) (.t 7)), none, .any⟩] false [2, 3, 4] [2, 3, 4]) (.seq (.reg [⟨(some 9), (.ld (some 3) (.t 2)), none, .any⟩, ⟨(some 10), (.ld (some 3) (.t 3)), none, .any⟩, ⟨(some 11), (.call 91 [((.t 9), none), ((.t 10), none)]), none, .any⟩, ⟨none, (.st 3 (.t 4) (.t 11)), none, .any⟩] false [4] [4]) .ret)))
def kp63 : List (Nat × Keep) := [(0, ⟨[2, 3, 4], [2, 3, 4], []⟩),
  (1, ⟨[2, 3, 4], [2, 3, 4], []⟩),
  (2, ⟨[4], [4], []⟩)]
theorem c63 : (Tryz.f63.body.bind fun c => compC Tryz.prog 12 [] kp63 c) = some ic63 := by kernel_rfl
theorem e63 {args : List AV} {r : AV} (ha : args.length ≤ 12) (h : VC e0 ic63 (retQ [(4, (some (some 3)))] r) ⟨argT 0 args, []⟩) : Fn 63 args r := fn_of Tryz.func63 rfl (by kernel_rfl) c63 ha (by decide) h

def ic65_1 : IC := (.seq (.reg [⟨(some 13), (.mv (.t 3)), none, .any⟩, ⟨(some 14), (.call 94 [((.t 13), none), ((.c (.str [48])), none)]), none, .any⟩, ⟨(some 4), (.mv (.t 14)), none, .any⟩] false [1, 2, 3, 4] [1, 2]) (.seq (.reg [⟨(some 15), (.fa 0 none (.t 1)), none, .any⟩, ⟨(some 16), (.ld none (.t 15)), none, .any⟩, ⟨(some 17), (.mv (.t 4)), none, .any⟩, ⟨(some 18), (.fa 2 none (.t 1)), none, .any⟩, ⟨(some 19), (.ld none (.t 18)), none, .any⟩, ⟨(some 20), (.mv (.t 3)), none, .any⟩, ⟨(some 21), (.len true (.t 20)), none, .any⟩, ⟨(some 22), (.bin .add none (.t 19) (.t 21)), none, .any⟩, ⟨(some 23), (.mv (.t 4)), none, .any⟩, ⟨(some 24), (.len true (.t 23)), none, .any⟩, ⟨(some 25), (.bin .sub none (.t 22) (.t 24)), none, .any⟩, ⟨(some 26), (.build [(.bool false), (.str []), (.int .i64 0)] [(0, (1, (.t 16))), (1, (1, (.t 17))), (2, (1, (.t 25)))]), none, .any⟩, ⟨none, (.st 3 (.t 2) (.t 26)), none, .any⟩] false [2] [2]) .ret))
def ic65 : IC := (.seq (.reg [⟨(some 1), (.box 23 (.t 0)), none, .any⟩, ⟨(some 2), (.alloc 23 [(.bool false), (.str []), (.int .i64 0)]), none, .any⟩] false [1, 2] [1, 2]) (.seq (.reg [⟨(some 5), (.fa 1 none (.t 1)), none, .any⟩, ⟨(some 6), (.ld none (.t 5)), none, .any⟩, ⟨(some 7), (.call 93 [((.t 6), none), ((.c (.str [48])), none)]), none, .any⟩, ⟨(some 3), (.mv (.t 7)), none, .any⟩] false [1, 2, 3] [1, 2]) (.seq (.seq (.reg [⟨(some 8), (.mv (.t 3)), none, .any⟩, ⟨(some 9), (.bin .eql none (.t 8) (.c (.str []))), none, .any⟩] false [1, 2, 3, 9] [1, 2]) (.cond (.t 9) (.seq (.reg [⟨(some 10), (.fa 0 none (.t 1)), none, .any⟩, ⟨(some 11), (.ld none (.t 10)), none, .any⟩, ⟨(some 12), (.build [(.bool false), (.str []), (.int .i64 0)] [(0, (1, (.t 11))), (1, (1, (.c (.str [48]))))]), none, .any⟩, ⟨none, (.st 3 (.t 2) (.t 12)), none, .any⟩] false [2] [2]) .ret) .skip)) ic65_1)))
def kp65 : List (Nat × Keep) := [(0, ⟨[1, 2], [1, 2], []⟩),
  (1, ⟨[1, 2, 3], [1, 2], []⟩),
  (2, ⟨[1, 2, 3, 9], [1, 2], []⟩),
  (3, ⟨[2], [2], []⟩),
  (4, ⟨[1, 2, 3, 4], [1, 2], []⟩),
  (5, ⟨[2], [2], []⟩)]
theorem c65 : (Tryz.f65.body.bind fun c => compC Tryz.prog 27 [] kp65 c) = some ic65 := by kernel_rfl
theorem e65 {args : List AV} {r : AV} (ha : args.length ≤ 27) (h : VC e0 ic65 (retQ [(2, (some (some 3)))] r) ⟨argT 0 args, []⟩) : Fn 65 args r := fn_of Tryz.func65 rfl (by kernel_rfl) c65 ha (by decide) h

def ic66_1 : IC := (.seq (.reg [⟨(some 8), (.fa 2 none (.t 1)), none, .any⟩, ⟨(some 9), (.ld none (.t 8)), none, .any⟩, ⟨(some 10), (.fa 1 none (.t 1)), none, .any⟩, ⟨(some 11), (.ld none (.t 10)), none, .any⟩, ⟨(some 12), (.len true (.t 11)), none, .any⟩, ⟨(some 13), (.bin .add none (.t 9) (.t 12)), none, .any⟩, ⟨(some 14), (.bin .sub none (.t 13) (.c (.int .i64 1))), none, .any⟩, ⟨(some 2), (.mv (.t 14)), none, .any⟩] false [2] []) .ret)
def ic66 : IC := (.seq (.reg [⟨(some 1), (.box 23 (.t 0)), none, .any⟩, ⟨(some 2), (.mv (.c (.int .i64 0))), none, .any⟩] false [1] [1]) (.seq (.seq (.reg [⟨(some 3), (.ld (some 3) (.t 1)), none, .any⟩, ⟨(some 4), (.call 65 [((.t 3), none)]), none, .any⟩, ⟨none, (.st 3 (.t 1) (.t 4)), none, .any⟩] false [1] [1]) (.seq (.reg [⟨(some 5), (.fa 1 none (.t 1)), none, .any⟩, ⟨(some 6), (.ld none (.t 5)), none, .any⟩, ⟨(some 7), (.bin .eql none (.t 6) (.c (.str [48]))), none, .any⟩] false [1, 7] [1]) (.cond (.t 7) (.seq (.reg [⟨(some 2), (.mv (.c (.int .i64 0))), none, .any⟩] false [2] []) .ret) .skip))) ic66_1))
def kp66 : List (Nat × Keep) := [(0, ⟨[1], [1], []⟩),
  (1, ⟨[1], [1], []⟩),
  (2, ⟨[1, 7], [1], []⟩),
  (3, ⟨[2], [], []⟩),
  (4, ⟨[2], [], []⟩)]
theorem c66 : (Tryz.f66.body.bind fun c => compC Tryz.prog 15 [] kp66 c) = some ic66 := by kernel_rfl
theorem e66 {args : List AV} {r : AV} (ha : args.length ≤ 15) (h : VC e0 ic66 (retQ [(2, none)] r) ⟨argT 0 args, []⟩) : Fn 66 args r := fn_of Tryz.func66 rfl (by kernel_rfl) c66 ha (by decide) h


def ic67 : IC := (.seq (.reg [⟨(some 2), (.box 26 (.t 0)), none, .any⟩, ⟨(some 4), (.mv (.c (.bool false))), none, .any⟩] false [1, 2] [2]) (.seq (.reg [⟨(some 5), (.mv (.t 1)), none, .any⟩, ⟨(some 6), (.fa 0 none (.t 2)), none, .any⟩, ⟨(some 7), (.ld none (.t 6)), none, .any⟩, ⟨(some 8), (.fa 1 none (.t 2)), none, .any⟩, ⟨(some 9), (.ld none (.t 8)), none, .any⟩, ⟨(some 10), (.fa 3 none (.t 2)), none, .any⟩, ⟨(some 11), (.ld none (.t 10)), none, .any⟩, ⟨(some 12), (.fa 4 none (.t 2)), none, .any⟩, ⟨(some 13), (.ld none (.t 12)), none, .any⟩, ⟨(some 14), (.lit false 24 1 [(.t 7), (.t 9), (.t 11), (.t 13)]), none, .any⟩, ⟨(some 15), (.call 95 [((.t 5), none), ((.t 14), (some 1))]), none, .any⟩, ⟨(some 4), (.mv (.t 15)), none, .any⟩] false [4] []) .ret))
def kp67 : List (Nat × Keep) := [(0, ⟨[1, 2], [2], []⟩),
  (1, ⟨[4], [], []⟩)]
theorem c67 : (Tryz.f67.body.bind fun c => compC Tryz.prog 16 [] kp67 c) = some ic67 := by kernel_rfl
theorem e67 {args : List AV} {r : AV} (ha : args.length ≤ 16) (h : VC e0 ic67 (retQ [(4, none)] r) ⟨argT 0 args, []⟩) : Fn 67 args r := fn_of Tryz.func67 rfl (by kernel_rfl) c67 ha (by decide) h

def ic68_1 : IC := (.seq (.reg [⟨(some 16), (.mv (.t 0)), none, .any⟩, ⟨(some 17), (.ld (some 3) (.t 4)), none, .any⟩, ⟨(some 18), (.ld (some 3) (.t 4)), none, .any⟩, ⟨(some 19), (.mv (.t 2)), none, .any⟩, ⟨(some 20), (.call 61 [((.t 18), none), ((.t 19), none)]), none, .any⟩, ⟨(some 21), (.call 69 [((.t 16), none), ((.t 17), none), ((.t 20), none)]), none, .any⟩, ⟨(some 22), (.ext (.t 21) 0), none, .any⟩, ⟨(some 23), (.ext (.t 21) 1), none, .any⟩, ⟨none, (.st 3 (.t 6) (.t 22)), none, .any⟩, ⟨(some 7), (.mv (.t 23)), none, .any⟩] true [6, 7] [6]) .ret)
def ic68 : IC := (.seq (.reg [⟨(some 4), (.box 23 (.t 1)), none, .any⟩, ⟨(some 6), (.alloc 23 [(.bool false), (.str []), (.int .i64 0)]), none, .any⟩, ⟨(some 7), (.mv (.c (.int .i64 0))), none, .any⟩] false [0, 2, 4, 6] [4, 6]) (.seq (.seq (.reg [⟨(some 8), (.mv (.t 0)), none, .any⟩, ⟨(some 9), (.call 38 [((.t 8), none)]), none, .any⟩, ⟨(some 10), (.not (.t 9)), none, .any⟩, ⟨(some 11), (.mv (.t 10)), none, .any⟩, ⟨(some 12), (.mv (.t 2)), (some (11, false)), .any⟩, ⟨(some 13), (.bin .lss none (.t 12) (.c (.int .i64 1))), (some (11, false)), .any⟩, ⟨(some 14), (.pick (.t 11) (.c (.bool true)) (.t 13)), none, .any⟩] false [0, 2, 4, 6, 14] [4, 6]) (.cond (.t 14) (.seq (.reg [⟨(some 15), (.build [(.bool false), (.str []), (.int .i64 0)] []), none, .any⟩, ⟨none, (.st 3 (.t 6) (.t 15)), none, .any⟩, ⟨(some 7), (.mv (.c (.int .i64 1))), none, .any⟩] false [6, 7] [6]) .ret) .skip)) ic68_1))
def kp68 : List (Nat × Keep) := [(0, ⟨[0, 2, 4, 6], [4, 6], []⟩),
  (1, ⟨[0, 2, 4, 6, 14], [4, 6], []⟩),
  (2, ⟨[6, 7], [6], []⟩),
  (3, ⟨[6, 7], [6], []⟩)]
theorem c68 : (Tryz.f68.body.bind fun c => compC Tryz.prog 24 [] kp68 c) = some ic68 := by kernel_rfl
theorem e68 {args : List AV} {r : AV} (ha : args.length ≤ 24) (h : VC e0 ic68 (retQ [(6, (some (some 3))), (7, none)] r) ⟨argT 0 args, []⟩) : Fn 68 args r := fn_of Tryz.func68 rfl (by kernel_rfl) c68 ha (by decide) h

def ic69_1 : IC := (.seq (.reg [⟨(some 60), (.fa 0 none (.t 4)), none, .any⟩, ⟨(some 61), (.ld none (.t 60)), none, .any⟩, ⟨(some 62), (.mv (.t 8)), none, .any⟩, ⟨(some 63), (.call 76 [((.t 62), (some 1))]), none, .any⟩, ⟨(some 64), (.mv (.t 2)), none, .any⟩, ⟨(some 65), (.build [(.bool false), (.str []), (.int .i64 0)] [(0, (1, (.t 61))), (1, (1, (.t 63))), (2, (1, (.t 64)))]), none, .any⟩, ⟨(some 66), (.call 65 [((.t 65), none)]), none, .any⟩, ⟨none, (.st 3 (.t 6) (.t 66)), none, .any⟩, ⟨(some 7), (.mv (.c (.int .i64 0))), none, .any⟩] true [6, 7] [6]) .ret)
def ic69_2 : IC := (.seq (.reg [⟨(some 27), (.ld (some 3) (.t 4)), none, .any⟩, ⟨(some 28), (.mv (.t 2)), none, .any⟩, ⟨(some 29), (.call 78 [((.t 27), none), ((.t 28), none)]), none, .any⟩, ⟨(some 26), (.mv (.t 29)), none, .any⟩, ⟨(some 30), (.ext (.t 26) 0), none, .any⟩, ⟨(some 31), (.ext (.t 26) 1), none, .any⟩, ⟨(some 8), (.mv (.t 30)), none, .any⟩, ⟨(some 9), (.mv (.t 31)), none, .any⟩] false [0, 2, 4, 6, 8, 9] [4, 6]) (.seq (.reg [⟨(some 32), (.mv (.t 9)), none, .any⟩, ⟨(some 33), (.mv (.t 9)), none, .any⟩, ⟨(some 34), (.call 75 [((.t 32), (some 1)), ((.t 33), (some 1))]), none, .any⟩, ⟨(some 35), (.lit false 94 1 [(.c (.int .u32 1))]), none, .any⟩, ⟨(some 36), (.mv (.t 2)), none, .any⟩, ⟨(some 37), (.fa 2 none (.t 4)), none, .any⟩, ⟨(some 38), (.ld none (.t 37)), none, .any⟩, ⟨(some 39), (.bin .sub none (.t 36) (.t 38)), none, .any⟩, ⟨(some 40), (.call 70 [((.t 35), (some 1)), ((.t 39), none)]), none, .any⟩, ⟨(some 41), (.call 74 [((.t 34), (some 1)), ((.t 40), (some 1))]), none, .any⟩, ⟨(some 10), (.mv (.t 41)), none, .any⟩] true [0, 2, 4, 6, 8, 10] [4, 6]) (.seq (.seq (.reg [⟨(some 42), (.mv (.t 0)), none, .any⟩, ⟨(some 43), (.fa 0 none (.t 4)), none, .any⟩, ⟨(some 44), (.ld none (.t 43)), none, .any⟩, ⟨(some 45), (.mv (.t 8)), none, .any⟩, ⟨(some 46), (.len false (.t 45)), none, .any⟩, ⟨(some 47), (.bin .gtr none (.t 46) (.c (.int .i64 0))), none, .any⟩, ⟨(some 48), (.mv (.t 47)), none, .any⟩, ⟨(some 49), (.mv (.t 8)), (some (48, true)), .any⟩, ⟨(some 50), (.ia 1 (.t 49) (.c (.int .i64 0))), (some (48, true)), .any⟩, ⟨(some 51), (.ld none (.t 50)), (some (48, true)), .any⟩, ⟨(some 52), (.bin .rem none (.t 51) (.c (.int .u32 2))), (some (48, true)), .any⟩, ⟨(some 53), (.bin .eql none (.t 52) (.c (.int .u32 1))), (some (48, true)), .any⟩, ⟨(some 54), (.pick (.t 48) (.t 53) (.c (.bool false))), none, .any⟩, ⟨(some 55), (.mv (.t 10)), none, .any⟩, ⟨(some 56), (.call 73 [((.t 42), none), ((.t 44), none), ((.t 54), none), ((.t 55), none)]), none, .any⟩] true [2, 4, 6, 8, 56] [4, 6]) (.cond (.t 56) (.reg [⟨(some 57), (.mv (.t 8)), none, .any⟩, ⟨(some 58), (.lit false 94 1 [(.c (.int .u32 1))]), none, .any⟩, ⟨(some 59), (.call 75 [((.t 57), (some 1)), ((.t 58), (some 1))]), none, .any⟩, ⟨(some 8), (.mv (.t 59)), none, .any⟩] false [2, 4, 6, 8] [4, 6]) .skip)) ic69_1)))
def ic69 : IC := (.seq (.reg [⟨(some 4), (.box 23 (.t 1)), none, .any⟩, ⟨(some 6), (.alloc 23 [(.bool false), (.str []), (.int .i64 0)]), none, .any⟩, ⟨(some 7), (.mv (.c (.int .i64 0))), none, .any⟩] false [0, 2, 4, 6] [4, 6]) (.seq (.block 0 (.seq (.reg [⟨(some 12), (.mv (.t 0)), none, .any⟩, ⟨(some 13), (.call 38 [((.t 12), none)]), none, .any⟩, ⟨(some 14), (.not (.t 13)), none, .any⟩, ⟨(some 11), (.mv (.t 14)), none, .any⟩] false [0, 2, 4, 6, 11] [4, 6]) (.cond (.t 11) (.seq (.reg [⟨(some 15), (.build [(.bool false), (.str []), (.int .i64 0)] []), none, .any⟩, ⟨none, (.st 3 (.t 6) (.t 15)), none, .any⟩, ⟨(some 7), (.mv (.c (.int .i64 1))), none, .any⟩] false [6, 7] [6]) .ret) (.seq (.reg [⟨(some 17), (.ld (some 3) (.t 4)), none, .any⟩, ⟨(some 18), (.mv (.t 2)), none, .any⟩, ⟨(some 19), (.call 46 [((.t 17), none), ((.t 18), none)]), none, .any⟩, ⟨(some 16), (.mv (.t 19)), none, .any⟩] false [0, 2, 4, 6, 16] [4, 6]) (.cond (.t 16) (.seq (.reg [⟨(some 20), (.ld (some 3) (.t 4)), none, .any⟩, ⟨(some 21), (.call 65 [((.t 20), none)]), none, .any⟩, ⟨none, (.st 3 (.t 6) (.t 21)), none, .any⟩, ⟨(some 7), (.mv (.c (.int .i64 0))), none, .any⟩] false [6, 7] [6]) .ret) (.seq (.reg [⟨(some 23), (.mv (.t 0)), none, .any⟩, ⟨(some 24), (.bin .eql none (.t 23) (.c (.int .i64 7))), none, .any⟩, ⟨(some 22), (.mv (.t 24)), none, .any⟩] false [0, 2, 4, 6, 22] [4, 6]) (.cond (.t 22) (.seq (.reg [⟨(some 25), (.build [(.bool false), (.str []), (.int .i64 0)] []), none, .any⟩, ⟨none, (.st 3 (.t 6) (.t 25)), none, .any⟩, ⟨(some 7), (.mv (.c (.int .i64 11))), none, .any⟩] false [6, 7] [6]) .ret) .skip))))))) ic69_2))
def kp69 : List (Nat × Keep) := [(0, ⟨[0, 2, 4, 6], [4, 6], []⟩),
  (1, ⟨[0, 2, 4, 6, 11], [4, 6], []⟩),
  (2, ⟨[6, 7], [6], []⟩),
  (3, ⟨[0, 2, 4, 6, 16], [4, 6], []⟩),
  (4, ⟨[6, 7], [6], []⟩),
  (5, ⟨[0, 2, 4, 6, 22], [4, 6], []⟩),
  (6, ⟨[6, 7], [6], []⟩),
  (7, ⟨[0, 2, 4, 6, 8, 9], [4, 6], []⟩),
  (8, ⟨[0, 2, 4, 6, 8, 10], [4, 6], []⟩),
  (9, ⟨[2, 4, 6, 8, 56], [4, 6], []⟩),
  (10, ⟨[2, 4, 6, 8], [4, 6], []⟩),
  (11, ⟨[6, 7], [6], []⟩)]
theorem c69 : (Tryz.f69.body.bind fun c => compC Tryz.prog 67 [] kp69 c) = some ic69 := by kernel_rfl
theorem e69 {args : List AV} {r : AV} (ha : args.length ≤ 67) (h : VC e0 ic69 (retQ [(6, (some (some 3))), (7, none)] r) ⟨argT 0 args, []⟩) : Fn 69 args r := fn_of Tryz.func69 rfl (by kernel_rfl) c69 ha (by decide) h

def ic70_1 : IC := (.seq (.reg [⟨(some 12), (.mv (.t 1)), none, .any⟩, ⟨(some 13), (.bin .quo none (.t 12) (.c (.int .i64 9))), none, .any⟩, ⟨(some 14), (.mk 94 4 (.int .u32 0) (.t 13) (.t 13)), none, .any⟩, ⟨(some 15), (.mv (.t 0)), none, .any⟩, ⟨(some 16), (.app 94 1 4 (.t 14) (.t 15)), none, .any⟩, ⟨(some 17), (.mv (.t 1)), none, .any⟩, ⟨(some 18), (.bin .rem none (.t 17) (.c (.int .i64 9))), none, .any⟩, ⟨(some 19), (.ga 1 9 (.g 0) (.t 18)), none, .ref⟩, ⟨(some 20), (.ld none (.t 19)), none, .ref⟩, ⟨(some 21), (.call 96 [((.t 16), (some 1)), ((.t 20), none), ((.c (.int .u32 0)), none)]), none, .any⟩, ⟨(some 4), (.mv (.t 21)), none, .any⟩] true [4] []) .ret)
def ic70 : IC := (.seq (.reg [⟨(some 4), (.mv (.c .nil)), none, .any⟩] false [0, 1] []) (.seq (.reg [⟨(some 5), (.mv (.t 1)), none, .any⟩, ⟨(some 6), (.mx (.t 5) (.c (.int .i64 0))), none, .any⟩, ⟨(some 1), (.mv (.t 6)), none, .any⟩] false [0, 1] []) (.seq (.seq (.reg [⟨(some 7), (.mv (.t 0)), none, .any⟩, ⟨(some 8), (.call 92 [((.t 7), (some 1))]), none, .any⟩, ⟨(some 0), (.mv (.t 8)), none, .any⟩] false [0, 1] []) (.seq (.reg [⟨(some 9), (.mv (.t 0)), none, .any⟩, ⟨(some 10), (.len false (.t 9)), none, .any⟩, ⟨(some 11), (.bin .eql none (.t 10) (.c (.int .i64 0))), none, .any⟩] false [0, 1, 11] []) (.cond (.t 11) (.seq (.reg [⟨(some 4), (.mv (.c .nil)), none, .any⟩] false [4] []) .ret) .skip))) ic70_1)))
def kp70 : List (Nat × Keep) := [(0, ⟨[0, 1], [], []⟩),
  (1, ⟨[0, 1], [], []⟩),
  (2, ⟨[0, 1], [], []⟩),
  (3, ⟨[0, 1, 11], [], []⟩),
  (4, ⟨[4], [], []⟩),
  (5, ⟨[4], [], [(7, .ref), (8, .ref)]⟩)]
theorem c70 : (Tryz.f70.body.bind fun c => compC Tryz.prog 22 [] kp70 c) = some ic70 := by kernel_rfl
theorem e70 {args : List AV} {r : AV} (ha : args.length ≤ 22) (h : VC e0 ic70 (retQ [(4, none)] r) ⟨argT 0 args, []⟩) : Fn 70 args r := fn_of Tryz.func70 rfl (by kernel_rfl) c70 ha (by decide) h

def ic71_1 : IC := (.seq (.block 1 (.seq (.reg [⟨(some 23), (.mv (.t 0)), none, .any⟩, ⟨(some 24), (.mv (.t 7)), none, .any⟩, ⟨(some 25), (.ia 1 (.t 23) (.t 24)), none, .any⟩, ⟨(some 26), (.ld none (.t 25)), none, .any⟩, ⟨(some 27), (.lit true 94 1 [(.t 26)]), none, .any⟩, ⟨(some 28), (.mv (.t 5)), none, .any⟩, ⟨(some 29), (.app 94 1 4 (.t 27) (.t 28)), none, .any⟩, ⟨(some 30), (.call 92 [((.t 29), (some 1))]), none, .any⟩, ⟨(some 5), (.mv (.t 30)), none, .any⟩] false [0, 1, 4, 5, 7] [15]) (.reg [⟨(some 32), (.mv (.t 4)), none, .any⟩, ⟨(some 33), (.mv (.t 7)), none, .any⟩, ⟨(some 34), (.mv (.t 5)), none, .any⟩, ⟨(some 35), (.mv (.t 1)), none, .any⟩, ⟨(some 36), (.call 97 [((.t 34), (some 1)), ((.t 35), (some 1))]), none, .any⟩, ⟨(some 31), (.mv (.t 36)), none, .any⟩, ⟨(some 37), (.ext (.t 31) 0), none, .any⟩, ⟨(some 38), (.ext (.t 31) 1), none, .any⟩, ⟨(some 39), (.ia 1 (.t 32) (.t 33)), none, .any⟩, ⟨none, (.st 1 (.t 39) (.t 37)), none, .any⟩, ⟨(some 5), (.mv (.t 38)), none, .any⟩] false [0, 1, 4, 5, 7] [15]))) (.reg [⟨(some 21), (.mv (.t 7)), none, .any⟩, ⟨(some 22), (.bin .sub none (.t 21) (.c (.int .i64 1))), none, .any⟩, ⟨(some 7), (.mv (.t 22)), none, .any⟩] false [0, 1, 4, 5, 7] [15]))
def ic71_2 : IC := (.seq (.seq (.reg [⟨(some 19), (.mv (.t 7)), none, .any⟩, ⟨(some 20), (.bin .geq none (.t 19) (.c (.int .i64 0))), none, .any⟩] false [0, 1, 4, 5, 7, 20] [15]) (.cond (.t 20) .skip (.exit 0))) ic71_1)
def ic71_3 : IC := (.seq (.reg [⟨(some 40), (.mv (.t 4)), none, .any⟩, ⟨(some 41), (.call 92 [((.t 40), (some 1))]), none, .any⟩, ⟨(some 42), (.mv (.t 5)), none, .any⟩, ⟨(some 43), (.call 92 [((.t 42), (some 1))]), none, .any⟩, ⟨(some 4), (.mv (.t 41)), none, .any⟩, ⟨(some 5), (.mv (.t 43)), none, .any⟩, ⟨(some 6), (.mv (.c (.bool true))), none, .any⟩] false [4, 5, 6] [15]) .ret)
def ic71_4 : IC := (.seq (.reg [⟨(some 13), (.mv (.t 0)), none, .any⟩, ⟨(some 14), (.len false (.t 13)), none, .any⟩, ⟨(some 15), (.mk 94 4 (.int .u32 0) (.t 14) (.t 14)), none, .any⟩, ⟨(some 4), (.mv (.t 15)), none, .any⟩] false [0, 1, 4, 5] [15]) (.seq (.seq (.reg [⟨(some 16), (.mv (.t 0)), none, .any⟩, ⟨(some 17), (.len false (.t 16)), none, .any⟩, ⟨(some 18), (.bin .sub none (.t 17) (.c (.int .i64 1))), none, .any⟩, ⟨(some 7), (.mv (.t 18)), none, .any⟩] false [0, 1, 4, 5, 7] [15]) (.block 0 (.loop ic71_2))) ic71_3))
def ic71 : IC := (.seq (.reg [⟨(some 4), (.mv (.c .nil)), none, .any⟩, ⟨(some 5), (.mv (.c .nil)), none, .any⟩, ⟨(some 6), (.mv (.c (.bool false))), none, .any⟩] false [0, 1, 5] []) (.seq (.reg [⟨(some 8), (.mv (.t 1)), none, .any⟩, ⟨(some 9), (.call 92 [((.t 8), (some 1))]), none, .any⟩, ⟨(some 1), (.mv (.t 9)), none, .any⟩] false [0, 1, 5] []) (.seq (.seq (.reg [⟨(some 10), (.mv (.t 1)), none, .any⟩, ⟨(some 11), (.len false (.t 10)), none, .any⟩, ⟨(some 12), (.bin .eql none (.t 11) (.c (.int .i64 0))), none, .any⟩] false [0, 1, 5, 12] []) (.cond (.t 12) (.seq (.reg [⟨(some 4), (.mv (.c .nil)), none, .any⟩, ⟨(some 5), (.mv (.c .nil)), none, .any⟩, ⟨(some 6), (.mv (.c (.bool false))), none, .any⟩] false [4, 5, 6] [15]) .ret) .skip)) ic71_4)))
def kp71 : List (Nat × Keep) := [(0, ⟨[0, 1, 5], [], []⟩),
  (1, ⟨[0, 1, 5], [], []⟩),
  (2, ⟨[0, 1, 5, 12], [], []⟩),
  (3, ⟨[4, 5, 6], [15], []⟩),
  (4, ⟨[0, 1, 4, 5], [15], []⟩),
  (5, ⟨[0, 1, 4, 5, 7], [15], []⟩),
  (6, ⟨[0, 1, 4, 5, 7, 20], [15], []⟩),
  (7, ⟨[0, 1, 4, 5, 7], [15], []⟩),
  (8, ⟨[0, 1, 4, 5, 7], [15], []⟩),
  (9, ⟨[0, 1, 4, 5, 7], [15], []⟩),
  (10, ⟨[4, 5, 6], [15], []⟩)]
theorem c71 : (Tryz.f71.body.bind fun c => compC Tryz.prog 44 [27] kp71 c) = some ic71 := by kernel_rfl
theorem e71 {args : List AV} {r : AV} (ha : args.length ≤ 44) (h : VC e0 ic71 (retQ [(4, none), (5, none), (6, none)] r) ⟨argT 0 args, []⟩) : Fn 71 args r := fn_of Tryz.func71 rfl (by kernel_rfl) c71 ha (by decide) h


def ic72 : IC := (.seq (.reg [⟨(some 1), (.box 23 (.t 0)), none, .any⟩, ⟨(some 2), (.mv (.c .nil)), none, .any⟩] false [1] [1]) (.seq (.reg [⟨(some 6), (.fa 1 none (.t 1)), none, .any⟩, ⟨(some 7), (.ld none (.t 6)), none, .any⟩, ⟨(some 8), (.call 64 [((.t 7), none)]), none, .any⟩, ⟨(some 5), (.mv (.t 8)), none, .any⟩, ⟨(some 9), (.ext (.t 5) 0), none, .any⟩, ⟨(some 10), (.ext (.t 5) 1), none, .any⟩, ⟨(some 3), (.mv (.t 9)), none, .any⟩, ⟨(some 4), (.mv (.t 10)), none, .any⟩] false [3] []) (.seq (.reg [⟨(some 11), (.mv (.t 3)), none, .any⟩, ⟨(some 2), (.mv (.t 11)), none, .any⟩] false [2] []) .ret)))
def kp72 : List (Nat × Keep) := [(0, ⟨[1], [1], []⟩),
  (1, ⟨[3], [], []⟩),
  (2, ⟨[2], [], []⟩)]
theorem c72 : (Tryz.f72.body.bind fun c => compC Tryz.prog 12 [] kp72 c) = some ic72 := by kernel_rfl
theorem e72 {args : List AV} {r : AV} (ha : args.length ≤ 12) (h : VC e0 ic72 (retQ [(2, none)] r) ⟨argT 0 args, []⟩) : Fn 72 args r := fn_of Tryz.func72 rfl (by kernel_rfl) c72 ha (by decide) h


def ic73 : IC := (.seq (.reg [⟨(some 8), (.mv (.c (.bool false))), none, .any⟩] false [0, 1, 2, 3] []) (.seq (.reg [⟨(some 9), (.mv (.t 0)), none, .any⟩, ⟨(some 10), (.call 38 [((.t 9), none)]), none, .any⟩, ⟨(some 11), (.mv (.t 10)), none, .any⟩, ⟨(some 12), (.mv (.t 0)), (some (11, true)), .any⟩, ⟨(some 13), (.ga 1 8 (.g 1) (.t 12)), (some (11, true)), .any⟩, ⟨(some 14), (.fa 0 none (.t 13)), (some (11, true)), .any⟩, ⟨(some 15), (.ld none (.t 14)), (some (11, true)), .any⟩, ⟨(some 16), (.mv (.t 1)), (some (11, true)), .any⟩, ⟨(some 17), (.mv (.t 2)), (some (11, true)), .any⟩, ⟨(some 18), (.mv (.t 3)), (some (11, true)), .any⟩, ⟨(some 19), (.dcall (.t 15) [((.t 16), none), ((.t 17), none), ((.t 18), none)]), (some (11, true)), .any⟩, ⟨(some 20), (.pick (.t 11) (.t 19) (.c (.bool false))), none, .any⟩, ⟨(some 8), (.mv (.t 20)), none, .any⟩] false [8] []) .ret))
def kp73 : List (Nat × Keep) := [(0, ⟨[0, 1, 2, 3], [], []⟩),
  (1, ⟨[8], [], []⟩)]
theorem c73 : (Tryz.f73.body.bind fun c => compC Tryz.prog 21 [] kp73 c) = some ic73 := by kernel_rfl
theorem e73 {args : List AV} {r : AV} (ha : args.length ≤ 21) (h : VC e0 ic73 (retQ [(8, none)] r) ⟨argT 0 args, []⟩) : Fn 73 args r := fn_of Tryz.func73 rfl (by kernel_rfl) c73 ha (by decide) h

def ic74_1 : IC := (.reg [⟨(some 29), (.mv (.t 5)), none, .any⟩, ⟨(some 30), (.bin .sub none (.t 29) (.c (.int .i64 1))), none, .any⟩, ⟨(some 5), (.mv (.t 30)), none, .any⟩] false [0, 1, 5] [])
def ic74_2 : IC := (.seq (.block 1 (.seq (.reg [⟨(some 31), (.mv (.t 0)), none, .any⟩, ⟨(some 32), (.mv (.t 5)), none, .any⟩, ⟨(some 33), (.ia 1 (.t 31) (.t 32)), none, .any⟩, ⟨(some 34), (.ld none (.t 33)), none, .any⟩, ⟨(some 35), (.mv (.t 1)), none, .any⟩, ⟨(some 36), (.mv (.t 5)), none, .any⟩, ⟨(some 37), (.ia 1 (.t 35) (.t 36)), none, .any⟩, ⟨(some 38), (.ld none (.t 37)), none, .any⟩, ⟨(some 39), (.bin .neq none (.t 34) (.t 38)), none, .any⟩] true [0, 1, 5, 39] []) (.cond (.t 39) (.seq (.reg [⟨(some 40), (.mv (.t 0)), none, .any⟩, ⟨(some 41), (.mv (.t 5)), none, .any⟩, ⟨(some 42), (.ia 1 (.t 40) (.t 41)), none, .any⟩, ⟨(some 43), (.ld none (.t 42)), none, .any⟩, ⟨(some 44), (.mv (.t 1)), none, .any⟩, ⟨(some 45), (.mv (.t 5)), none, .any⟩, ⟨(some 46), (.ia 1 (.t 44) (.t 45)), none, .any⟩, ⟨(some 47), (.ld none (.t 46)), none, .any⟩, ⟨(some 48), (.call 100 [((.t 43), none), ((.t 47), none)]), none, .any⟩, ⟨(some 4), (.mv (.t 48)), none, .any⟩] true [4] []) .ret) .skip))) ic74_1)
def ic74_3 : IC := (.seq (.seq (.reg [⟨(some 27), (.mv (.t 5)), none, .any⟩, ⟨(some 28), (.bin .geq none (.t 27) (.c (.int .i64 0))), none, .any⟩] false [0, 1, 5, 28] []) (.cond (.t 28) .skip (.exit 0))) ic74_2)
def ic74_4 : IC := (.seq (.reg [⟨(some 4), (.mv (.c (.int .i64 0))), none, .any⟩] false [4] []) .ret)
def ic74_5 : IC := (.seq (.seq (.reg [⟨(some 24), (.mv (.t 0)), none, .any⟩, ⟨(some 25), (.len false (.t 24)), none, .any⟩, ⟨(some 26), (.bin .sub none (.t 25) (.c (.int .i64 1))), none, .any⟩, ⟨(some 5), (.mv (.t 26)), none, .any⟩] false [0, 1, 5] []) (.block 0 (.loop ic74_3))) ic74_4)
def ic74 : IC := (.seq (.reg [⟨(some 4), (.mv (.c (.int .i64 0))), none, .any⟩] false [0, 1] []) (.seq (.reg [⟨(some 6), (.mv (.t 0)), none, .any⟩, ⟨(some 7), (.mv (.t 0)), none, .any⟩, ⟨(some 8), (.call 98 [((.t 7), (some 1))]), none, .any⟩, ⟨(some 9), (.sls 1 (.t 6) none (some (.t 8))), none, .any⟩, ⟨(some 10), (.mv (.t 1)), none, .any⟩, ⟨(some 11), (.mv (.t 1)), none, .any⟩, ⟨(some 12), (.call 98 [((.t 11), (some 1))]), none, .any⟩, ⟨(some 13), (.sls 1 (.t 10) none (some (.t 12))), none, .any⟩, ⟨(some 0), (.mv (.t 9)), none, .any⟩, ⟨(some 1), (.mv (.t 13)), none, .any⟩] true [0, 1] []) (.seq (.seq (.reg [⟨(some 14), (.mv (.t 0)), none, .any⟩, ⟨(some 15), (.len false (.t 14)), none, .any⟩, ⟨(some 16), (.mv (.t 1)), none, .any⟩, ⟨(some 17), (.len false (.t 16)), none, .any⟩, ⟨(some 18), (.bin .neq none (.t 15) (.t 17)), none, .any⟩] false [0, 1, 18] []) (.cond (.t 18) (.seq (.reg [⟨(some 19), (.mv (.t 0)), none, .any⟩, ⟨(some 20), (.len false (.t 19)), none, .any⟩, ⟨(some 21), (.mv (.t 1)), none, .any⟩, ⟨(some 22), (.len false (.t 21)), none, .any⟩, ⟨(some 23), (.call 99 [((.t 20), none), ((.t 22), none)]), none, .any⟩, ⟨(some 4), (.mv (.t 23)), none, .any⟩] false [4] []) .ret) .skip)) ic74_5)))
def kp74 : List (Nat × Keep) := [(0, ⟨[0, 1], [], []⟩),
  (1, ⟨[0, 1], [], []⟩),
  (2, ⟨[0, 1, 18], [], []⟩),
  (3, ⟨[4], [], []⟩),
  (4, ⟨[0, 1, 5], [], []⟩),
  (5, ⟨[0, 1, 5, 28], [], []⟩),
  (6, ⟨[0, 1, 5], [], []⟩),
  (7, ⟨[0, 1, 5, 39], [], []⟩),
  (8, ⟨[4], [], []⟩),
  (9, ⟨[4], [], []⟩)]
theorem c74 : (Tryz.f74.body.bind fun c => compC Tryz.prog 49 [] kp74 c) = some ic74 := by kernel_rfl
theorem e74 {args : List AV} {r : AV} (ha : args.length ≤ 49) (h : VC e0 ic74 (retQ [(4, none)] r) ⟨argT 0 args, []⟩) : Fn 74 args r := fn_of Tryz.func74 rfl (by kernel_rfl) c74 ha (by decide) h

def ic75_1 : IC := (.seq (.reg [⟨(some 41), (.mv (.t 9)), none, .any⟩, ⟨(some 42), (.bin .quo none (.t 41) (.c (.int .u32 1000000000))), none, .any⟩, ⟨(some 6), (.mv (.t 42)), none, .any⟩] false [1, 5, 6, 9, 21, 22, 23] [20, 47]) (.reg [⟨(some 43), (.mv (.t 5)), none, .any⟩, ⟨(some 44), (.mv (.t 9)), none, .any⟩, ⟨(some 45), (.bin .rem none (.t 44) (.c (.int .u32 1000000000))), none, .any⟩, ⟨(some 46), (.lit false 94 1 [(.t 45)]), none, .any⟩, ⟨(some 47), (.app 94 1 4 (.t 43) (.t 46)), none, .any⟩, ⟨(some 5), (.mv (.t 47)), none, .any⟩] false [1, 5, 6, 21, 22, 23] [20, 47]))
def ic75_2 : IC := (.reg [⟨(some 48), (.bin .add none (.t 23) (.c (.int .i64 1))), none, .any⟩, ⟨(some 23), (.mv (.t 48)), none, .any⟩] false [1, 5, 6, 21, 22, 23] [20, 47])
def ic75_3 : IC := (.seq (.block 1 (.seq (.reg [⟨(some 25), (.mv (.t 23)), none, .any⟩, ⟨(some 26), (.ia 1 (.t 21) (.t 23)), none, .any⟩, ⟨(some 27), (.ld none (.t 26)), none, .any⟩, ⟨(some 7), (.mv (.t 25)), none, .any⟩, ⟨(some 8), (.mv (.t 27)), none, .any⟩] false [1, 5, 6, 7, 8, 21, 22, 23] [20, 47]) (.seq (.reg [⟨(some 28), (.mv (.t 8)), none, .any⟩, ⟨(some 29), (.mv (.t 6)), none, .any⟩, ⟨(some 30), (.bin .add none (.t 28) (.t 29)), none, .any⟩, ⟨(some 9), (.mv (.t 30)), none, .any⟩] false [1, 5, 7, 9, 21, 22, 23] [20, 47]) (.seq (.seq (.reg [⟨(some 31), (.mv (.t 7)), none, .any⟩, ⟨(some 32), (.mv (.t 1)), none, .any⟩, ⟨(some 33), (.len false (.t 32)), none, .any⟩, ⟨(some 34), (.bin .lss none (.t 31) (.t 33)), none, .any⟩] false [1, 5, 7, 9, 21, 22, 23, 34] [20, 47]) (.cond (.t 34) (.reg [⟨(some 35), (.mv (.t 9)), none, .any⟩, ⟨(some 36), (.mv (.t 1)), none, .any⟩, ⟨(some 37), (.mv (.t 7)), none, .any⟩, ⟨(some 38), (.ia 1 (.t 36) (.t 37)), none, .any⟩, ⟨(some 39), (.ld none (.t 38)), none, .any⟩, ⟨(some 40), (.bin .add none (.t 35) (.t 39)), none, .any⟩, ⟨(some 9), (.mv (.t 40)), none, .any⟩] false [1, 5, 9, 21, 22, 23] [20, 47]) .skip)) ic75_1)))) ic75_2)
def ic75_4 : IC := (.seq (.reg [⟨(some 24), (.bin .lss none (.t 23) (.t 22)), none, .any⟩] false [1, 5, 6, 21, 22, 23, 24] [20, 47]) (.seq (.cond (.t 24) .skip (.exit 0)) ic75_3))
def ic75_5 : IC := (.seq (.reg [⟨(some 49), (.mv (.t 5)), none, .any⟩, ⟨(some 50), (.mv (.t 6)), none, .any⟩, ⟨(some 51), (.lit false 94 1 [(.t 50)]), none, .any⟩, ⟨(some 52), (.app 94 1 4 (.t 49) (.t 51)), none, .any⟩, ⟨(some 53), (.call 92 [((.t 52), (some 1))]), none, .any⟩, ⟨(some 4), (.mv (.t 53)), none, .any⟩] false [4] []) .ret)
def ic75_6 : IC := (.seq (.reg [⟨(some 17), (.mv (.t 0)), none, .any⟩, ⟨(some 18), (.len false (.t 17)), none, .any⟩, ⟨(some 19), (.bin .add none (.t 18) (.c (.int .i64 1))), none, .any⟩, ⟨(some 20), (.mk 94 4 (.int .u32 0) (.c (.int .i64 0)) (.t 19)), none, .any⟩, ⟨(some 5), (.mv (.t 20)), none, .any⟩] false [0, 1, 5] [20, 47]) (.seq (.reg [⟨(some 6), (.mv (.c (.int .u32 0))), none, .any⟩] false [0, 1, 5, 6] [20, 47]) (.seq (.seq (.reg [⟨(some 21), (.mv (.t 0)), none, .any⟩, ⟨(some 22), (.len false (.t 21)), none, .any⟩, ⟨(some 23), (.mv (.c (.int .i64 0))), none, .any⟩] false [1, 5, 6, 21, 22, 23] [20, 47]) (.block 0 (.loop ic75_4))) ic75_5)))
def ic75 : IC := (.seq (.reg [⟨(some 4), (.mv (.c .nil)), none, .any⟩] false [0, 1] []) (.seq (.seq (.reg [⟨(some 10), (.mv (.t 0)), none, .any⟩, ⟨(some 11), (.len false (.t 10)), none, .any⟩, ⟨(some 12), (.mv (.t 1)), none, .any⟩, ⟨(some 13), (.len false (.t 12)), none, .any⟩, ⟨(some 14), (.bin .lss none (.t 11) (.t 13)), none, .any⟩] false [0, 1, 14] []) (.cond (.t 14) (.reg [⟨(some 15), (.mv (.t 1)), none, .any⟩, ⟨(some 16), (.mv (.t 0)), none, .any⟩, ⟨(some 0), (.mv (.t 15)), none, .any⟩, ⟨(some 1), (.mv (.t 16)), none, .any⟩] false [0, 1] []) .skip)) ic75_6))
def kp75 : List (Nat × Keep) := [(0, ⟨[0, 1], [], []⟩),
  (1, ⟨[0, 1, 14], [], []⟩),
  (2, ⟨[0, 1], [], []⟩),
  (3, ⟨[0, 1, 5], [20, 47], []⟩),
  (4, ⟨[0, 1, 5, 6], [20, 47], []⟩),
  (5, ⟨[1, 5, 6, 21, 22, 23], [20, 47], []⟩),
  (6, ⟨[1, 5, 6, 21, 22, 23, 24], [20, 47], []⟩),
  (7, ⟨[1, 5, 6, 7, 8, 21, 22, 23], [20, 47], []⟩),
  (8, ⟨[1, 5, 7, 9, 21, 22, 23], [20, 47], []⟩),
  (9, ⟨[1, 5, 7, 9, 21, 22, 23, 34], [20, 47], []⟩),
  (10, ⟨[1, 5, 9, 21, 22, 23], [20, 47], []⟩),
  (11, ⟨[1, 5, 6, 9, 21, 22, 23], [20, 47], []⟩),
  (12, ⟨[1, 5, 6, 21, 22, 23], [20, 47], []⟩),
  (13, ⟨[1, 5, 6, 21, 22, 23], [20, 47], []⟩),
  (14, ⟨[4], [], []⟩)]
theorem c75 : (Tryz.f75.body.bind fun c => compC Tryz.prog 54 [] kp75 c) = some ic75 := by kernel_rfl
theorem e75 {args : List AV} {r : AV} (ha : args.length ≤ 54) (h : VC e0 ic75 (retQ [(4, none)] r) ⟨argT 0 args, []⟩) : Fn 75 args r := fn_of Tryz.func75 rfl (by kernel_rfl) c75 ha (by decide) h

def ic77_1 : IC := (.seq (.block 1 (.seq (.reg [⟨(some 19), (.mv (.t 17)), none, .any⟩, ⟨(some 20), (.ia 1 (.t 15) (.t 17)), none, .any⟩, ⟨(some 21), (.ld none (.t 20)), none, .any⟩, ⟨(some 6), (.mv (.t 19)), none, .any⟩, ⟨(some 7), (.mv (.t 21)), none, .any⟩] false [0, 5, 6, 7, 15, 16, 17] [14]) (.reg [⟨(some 22), (.mv (.t 5)), none, .any⟩, ⟨(some 23), (.mv (.t 0)), none, .any⟩, ⟨(some 24), (.mv (.t 7)), none, .any⟩, ⟨(some 25), (.mv (.t 6)), none, .any⟩, ⟨(some 26), (.callm 105 (.t 22) [((.t 23), (some 1)), ((.t 24), none), ((.t 25), none)]), none, .any⟩] false [0, 5, 15, 16, 17] [14]))) (.reg [⟨(some 27), (.bin .add none (.t 17) (.c (.int .i64 1))), none, .any⟩, ⟨(some 17), (.mv (.t 27)), none, .any⟩] false [0, 5, 15, 16, 17] [14]))
def ic77_2 : IC := (.seq (.reg [⟨(some 18), (.bin .lss none (.t 17) (.t 16)), none, .any⟩] false [0, 5, 15, 16, 17, 18] [14]) (.seq (.cond (.t 18) .skip (.exit 0)) ic77_1))
def ic77_3 : IC := (.seq (.reg [⟨(some 28), (.mv (.t 5)), none, .any⟩, ⟨(some 29), (.call 92 [((.t 28), (some 1))]), none, .any⟩, ⟨(some 4), (.mv (.t 29)), none, .any⟩] false [4] []) .ret)
def ic77 : IC := (.seq (.reg [⟨(some 4), (.mv (.c .nil)), none, .any⟩] false [0, 1] []) (.seq (.reg [⟨(some 8), (.mv (.t 0)), none, .any⟩, ⟨(some 9), (.len false (.t 8)), none, .any⟩, ⟨(some 10), (.mv (.t 1)), none, .any⟩, ⟨(some 11), (.len false (.t 10)), none, .any⟩, ⟨(some 12), (.bin .add none (.t 9) (.t 11)), none, .any⟩, ⟨(some 13), (.bin .add none (.t 12) (.c (.int .i64 1))), none, .any⟩, ⟨(some 14), (.mk 94 4 (.int .u32 0) (.t 13) (.t 13)), none, .any⟩, ⟨(some 5), (.mv (.t 14)), none, .any⟩] false [0, 1, 5] [14]) (.seq (.seq (.reg [⟨(some 15), (.mv (.t 1)), none, .any⟩, ⟨(some 16), (.len false (.t 15)), none, .any⟩, ⟨(some 17), (.mv (.c (.int .i64 0))), none, .any⟩] false [0, 5, 15, 16, 17] [14]) (.block 0 (.loop ic77_2))) ic77_3)))
def kp77 : List (Nat × Keep) := [(0, ⟨[0, 1], [], []⟩),
  (1, ⟨[0, 1, 5], [14], []⟩),
  (2, ⟨[0, 5, 15, 16, 17], [14], []⟩),
  (3, ⟨[0, 5, 15, 16, 17, 18], [14], []⟩),
  (4, ⟨[0, 5, 6, 7, 15, 16, 17], [14], []⟩),
  (5, ⟨[0, 5, 15, 16, 17], [14], []⟩),
  (6, ⟨[0, 5, 15, 16, 17], [14], []⟩),
  (7, ⟨[4], [], []⟩)]
theorem c77 : (Tryz.f77.body.bind fun c => compC Tryz.prog 30 [1000105] kp77 c) = some ic77 := by kernel_rfl
theorem e77 {args : List AV} {r : AV} (ha : args.length ≤ 30) (h : VC e0 ic77 (retQ [(4, none)] r) ⟨argT 0 args, []⟩) : Fn 77 args r := fn_of Tryz.func77 rfl (by kernel_rfl) c77 ha (by decide) h


def ic78 : IC := (.seq (.reg [⟨(some 2), (.box 23 (.t 0)), none, .any⟩, ⟨(some 4), (.mv (.c .nil)), none, .any⟩, ⟨(some 5), (.mv (.c .nil)), none, .any⟩] false [1, 2] [2]) (.seq (.reg [⟨(some 6), (.ld (some 3) (.t 2)), none, .any⟩, ⟨(some 7), (.call 72 [((.t 6), none)]), none, .any⟩, ⟨(some 8), (.mv (.t 1)), none, .any⟩, ⟨(some 9), (.fa 2 none (.t 2)), none, .any⟩, ⟨(some 10), (.ld none (.t 9)), none, .any⟩, ⟨(some 11), (.bin .sub none (.t 8) (.t 10)), none, .any⟩, ⟨(some 12), (.call 106 [((.t 7), (some 1)), ((.t 11), none)]), none, .any⟩, ⟨(some 13), (.ext (.t 12) 0), none, .any⟩, ⟨(some 14), (.ext (.t 12) 1), none, .any⟩, ⟨(some 4), (.mv (.t 13)), none, .any⟩, ⟨(some 5), (.mv (.t 14)), none, .any⟩] true [4, 5] []) .ret))
def kp78 : List (Nat × Keep) := [(0, ⟨[1, 2], [2], []⟩),
  (1, ⟨[4, 5], [], []⟩)]
theorem c78 : (Tryz.f78.body.bind fun c => compC Tryz.prog 15 [] kp78 c) = some ic78 := by kernel_rfl
theorem e78 {args : List AV} {r : AV} (ha : args.length ≤ 15) (h : VC e0 ic78 (retQ [(4, none), (5, none)] r) ⟨argT 0 args, []⟩) : Fn 78 args r := fn_of Tryz.func78 rfl (by kernel_rfl) c78 ha (by decide) h



def ic81 : IC := (.seq (.reg [⟨(some 1), (.box 23 (.t 0)), none, .any⟩, ⟨(some 2), (.mv (.c (.bool false))), none, .any⟩] false [1] [1]) (.seq (.reg [⟨(some 3), (.ld (some 3) (.t 1)), none, .any⟩, ⟨(some 4), (.call 65 [((.t 3), none)]), none, .any⟩, ⟨(some 5), (.fld 1 none (.t 4)), none, .any⟩, ⟨(some 6), (.bin .eql none (.t 5) (.c (.str [48]))), none, .any⟩, ⟨(some 2), (.mv (.t 6)), none, .any⟩] false [2] []) .ret))
def kp81 : List (Nat × Keep) := [(0, ⟨[1], [1], []⟩),
  (1, ⟨[2], [], []⟩)]
theorem c81 : (Tryz.f81.body.bind fun c => compC Tryz.prog 7 [] kp81 c) = some ic81 := by kernel_rfl
theorem e81 {args : List AV} {r : AV} (ha : args.length ≤ 7) (h : VC e0 ic81 (retQ [(2, none)] r) ⟨argT 0 args, []⟩) : Fn 81 args r := fn_of Tryz.func81 rfl (by kernel_rfl) c81 ha (by decide) h


def ic91_1 : IC := (.seq (.reg [⟨(some 56), (.mv (.t 7)), none, .any⟩, ⟨(some 57), (.mv (.t 6)), none, .any⟩, ⟨(some 58), (.call 121 [((.t 56), (some 1)), ((.t 57), (some 1))]), none, .any⟩, ⟨(some 55), (.mv (.t 58)), none, .any⟩, ⟨(some 59), (.ext (.t 55) 0), none, .any⟩, ⟨(some 60), (.ext (.t 55) 1), none, .any⟩, ⟨(some 10), (.mv (.t 59)), none, .any⟩, ⟨(some 11), (.mv (.t 60)), none, .any⟩] false [3, 4, 5, 10] [3, 4]) (.seq (.reg [⟨(some 61), (.fa 0 none (.t 3)), none, .any⟩, ⟨(some 62), (.ld none (.t 61)), none, .any⟩, ⟨(some 63), (.mv (.t 10)), none, .any⟩, ⟨(some 64), (.mv (.t 5)), none, .any⟩, ⟨(some 65), (.call 120 [((.t 62), none), ((.t 63), (some 1)), ((.t 64), none)]), none, .any⟩, ⟨none, (.st 3 (.t 4) (.t 65)), none, .any⟩] false [4] [4]) .ret))
def ic91_2 : IC := (.seq (.seq (.reg [⟨(some 44), (.mv (.t 6)), none, .any⟩, ⟨(some 45), (.mv (.t 7)), none, .any⟩, ⟨(some 46), (.call 121 [((.t 44), (some 1)), ((.t 45), (some 1))]), none, .any⟩, ⟨(some 43), (.mv (.t 46)), none, .any⟩, ⟨(some 47), (.ext (.t 43) 0), none, .any⟩, ⟨(some 48), (.ext (.t 43) 1), none, .any⟩, ⟨(some 8), (.mv (.t 47)), none, .any⟩, ⟨(some 9), (.mv (.t 48)), none, .any⟩] false [2, 3, 4, 5, 6, 7, 8, 9] [2, 3, 4]) (.seq (.reg [⟨(some 49), (.mv (.t 9)), none, .any⟩] false [2, 3, 4, 5, 6, 7, 8, 49] [2, 3, 4]) (.cond (.t 49) (.seq (.reg [⟨(some 50), (.fa 0 none (.t 2)), none, .any⟩, ⟨(some 51), (.ld none (.t 50)), none, .any⟩, ⟨(some 52), (.mv (.t 8)), none, .any⟩, ⟨(some 53), (.mv (.t 5)), none, .any⟩, ⟨(some 54), (.call 120 [((.t 51), none), ((.t 52), (some 1)), ((.t 53), none)]), none, .any⟩, ⟨none, (.st 3 (.t 4) (.t 54)), none, .any⟩] false [4] [4]) .ret) .skip))) ic91_1)
def ic91 : IC := (.seq (.reg [⟨(some 2), (.box 23 (.t 0)), none, .any⟩, ⟨(some 3), (.box 23 (.t 1)), none, .any⟩, ⟨(some 4), (.alloc 23 [(.bool false), (.str []), (.int .i64 0)]), none, .any⟩] false [2, 3, 4] [2, 3, 4]) (.seq (.reg [⟨(some 12), (.fa 2 none (.t 2)), none, .any⟩, ⟨(some 13), (.ld none (.t 12)), none, .any⟩, ⟨(some 14), (.fa 2 none (.t 3)), none, .any⟩, ⟨(some 15), (.ld none (.t 14)), none, .any⟩, ⟨(some 16), (.mn (.t 13) (.t 15)), none, .any⟩, ⟨(some 5), (.mv (.t 16)), none, .any⟩] false [2, 3, 4, 5] [2, 3, 4]) (.seq (.reg [⟨(some 17), (.ld (some 3) (.t 2)), none, .any⟩, ⟨(some 18), (.call 72 [((.t 17), none)]), none, .any⟩, ⟨(some 19), (.fa 2 none (.t 2)), none, .any⟩, ⟨(some 20), (.ld none (.t 19)), none, .any⟩, ⟨(some 21), (.mv (.t 5)), none, .any⟩, ⟨(some 22), (.bin .sub none (.t 20) (.t 21)), none, .any⟩, ⟨(some 23), (.call 70 [((.t 18), (some 1)), ((.t 22), none)]), none, .any⟩, ⟨(some 24), (.ld (some 3) (.t 3)), none, .any⟩, ⟨(some 25), (.call 72 [((.t 24), none)]), none, .any⟩, ⟨(some 26), (.fa 2 none (.t 3)), none, .any⟩, ⟨(some 27), (.ld none (.t 26)), none, .any⟩, ⟨(some 28), (.mv (.t 5)), none, .any⟩, ⟨(some 29), (.bin .sub none (.t 27) (.t 28)), none, .any⟩, ⟨(some 30), (.call 70 [((.t 25), (some 1)), ((.t 29), none)]), none, .any⟩, ⟨(some 6), (.mv (.t 23)), none, .any⟩, ⟨(some 7), (.mv (.t 30)), none, .any⟩] true [2, 3, 4, 5, 6, 7] [2, 3, 4]) (.seq (.seq (.reg [⟨(some 31), (.fa 0 none (.t 2)), none, .any⟩, ⟨(some 32), (.ld none (.t 31)), none, .any⟩, ⟨(some 33), (.fa 0 none (.t 3)), none, .any⟩, ⟨(some 34), (.ld none (.t 33)), none, .any⟩, ⟨(some 35), (.bin .eql (some [9]) (.t 32) (.t 34)), none, .any⟩] false [2, 3, 4, 5, 6, 7, 35] [2, 3, 4]) (.cond (.t 35) (.seq (.reg [⟨(some 36), (.fa 0 none (.t 2)), none, .any⟩, ⟨(some 37), (.ld none (.t 36)), none, .any⟩, ⟨(some 38), (.mv (.t 6)), none, .any⟩, ⟨(some 39), (.mv (.t 7)), none, .any⟩, ⟨(some 40), (.call 75 [((.t 38), (some 1)), ((.t 39), (some 1))]), none, .any⟩, ⟨(some 41), (.mv (.t 5)), none, .any⟩, ⟨(some 42), (.call 120 [((.t 37), none), ((.t 40), (some 1)), ((.t 41), none)]), none, .any⟩, ⟨none, (.st 3 (.t 4) (.t 42)), none, .any⟩] true [4] [4]) .ret) .skip)) ic91_2))))
def kp91 : List (Nat × Keep) := [(0, ⟨[2, 3, 4], [2, 3, 4], []⟩),
  (1, ⟨[2, 3, 4, 5], [2, 3, 4], []⟩),
  (2, ⟨[2, 3, 4, 5, 6, 7], [2, 3, 4], []⟩),
  (3, ⟨[2, 3, 4, 5, 6, 7, 35], [2, 3, 4], []⟩),
  (4, ⟨[4], [4], []⟩),
  (5, ⟨[2, 3, 4, 5, 6, 7, 8, 9], [2, 3, 4], []⟩),
  (6, ⟨[2, 3, 4, 5, 6, 7, 8, 49], [2, 3, 4], []⟩),
  (7, ⟨[4], [4], []⟩),
  (8, ⟨[3, 4, 5, 10], [3, 4], []⟩),
  (9, ⟨[4], [4], []⟩)]
theorem c91 : (Tryz.f91.body.bind fun c => compC Tryz.prog 66 [] kp91 c) = some ic91 := by kernel_rfl
theorem e91 {args : List AV} {r : AV} (ha : args.length ≤ 66) (h : VC e0 ic91 (retQ [(4, (some (some 3)))] r) ⟨argT 0 args, []⟩) : Fn 91 args r := fn_of Tryz.func91 rfl (by kernel_rfl) c91 ha (by decide) h


def ic96 : IC := (.seq (.reg [⟨(some 6), (.mv (.c .nil)), none, .any⟩] false [0, 1, 2] []) (.seq (.reg [⟨(some 8), (.mv (.t 0)), none, .any⟩, ⟨(some 9), (.len false (.t 8)), none, .any⟩, ⟨(some 10), (.bin .add none (.t 9) (.c (.int .i64 2))), none, .any⟩, ⟨(some 11), (.mk 94 4 (.int .u32 0) (.t 10) (.t 10)), none, .any⟩, ⟨(some 7), (.mv (.t 11)), none, .any⟩] false [0, 1, 2, 7] [11]) (.seq (.reg [⟨(some 12), (.mv (.t 7)), none, .any⟩, ⟨(some 13), (.mv (.t 2)), none, .any⟩, ⟨(some 14), (.ia 1 (.t 12) (.c (.int .i64 0))), none, .any⟩, ⟨none, (.st 1 (.t 14) (.t 13)), none, .any⟩] false [0, 1, 7] [11]) (.seq (.reg [⟨(some 15), (.mv (.t 7)), none, .any⟩, ⟨(some 16), (.mv (.t 0)), none, .any⟩, ⟨(some 17), (.mv (.t 1)), none, .any⟩, ⟨(some 18), (.callm 105 (.t 15) [((.t 16), (some 1)), ((.t 17), none), ((.c (.int .i64 0)), none)]), none, .any⟩] false [7] [11]) (.seq (.reg [⟨(some 19), (.mv (.t 7)), none, .any⟩, ⟨(some 20), (.call 92 [((.t 19), (some 1))]), none, .any⟩, ⟨(some 6), (.mv (.t 20)), none, .any⟩] false [6] []) .ret)))))
def kp96 : List (Nat × Keep) := [(0, ⟨[0, 1, 2], [], []⟩),
  (1, ⟨[0, 1, 2, 7], [11], []⟩),
  (2, ⟨[0, 1, 7], [11], []⟩),
  (3, ⟨[7], [11], []⟩),
  (4, ⟨[6], [], []⟩)]
theorem c96 : (Tryz.f96.body.bind fun c => compC Tryz.prog 21 [1000105] kp96 c) = some ic96 := by kernel_rfl
theorem e96 {args : List AV} {r : AV} (ha : args.length ≤ 21) (h : VC e0 ic96 (retQ [(6, none)] r) ⟨argT 0 args, []⟩) : Fn 96 args r := fn_of Tryz.func96 rfl (by kernel_rfl) c96 ha (by decide) h

def ic97_1 : IC := (.block 1 (.seq (.reg [⟨(some 15), (.mv (.t 6)), none, .any⟩, ⟨(some 16), (.mv (.t 7)), none, .any⟩, ⟨(some 17), (.bin .add none (.t 15) (.t 16)), none, .any⟩, ⟨(some 18), (.bin .quo none (.t 17) (.c (.int .u32 2))), none, .any⟩, ⟨(some 8), (.mv (.t 18)), none, .any⟩] false [0, 1, 6, 7, 8] []) (.seq (.reg [⟨(some 19), (.mv (.t 1)), none, .any⟩, ⟨(some 20), (.mv (.t 8)), none, .any⟩, ⟨(some 21), (.call 96 [((.t 19), (some 1)), ((.t 20), none), ((.c (.int .u32 0)), none)]), none, .any⟩, ⟨(some 22), (.mv (.t 0)), none, .any⟩, ⟨(some 23), (.call 74 [((.t 21), (some 1)), ((.t 22), (some 1))]), none, .any⟩, ⟨(some 24), (.bin .leq none (.t 23) (.c (.int .i64 0))), none, .any⟩] false [0, 1, 6, 7, 8, 24] []) (.cond (.t 24) (.reg [⟨(some 25), (.mv (.t 8)), none, .any⟩, ⟨(some 6), (.mv (.t 25)), none, .any⟩] false [0, 1, 6, 7] []) (.reg [⟨(some 26), (.mv (.t 8)), none, .any⟩, ⟨(some 7), (.mv (.t 26)), none, .any⟩] false [0, 1, 6, 7] [])))))
def ic97_2 : IC := (.seq (.seq (.reg [⟨(some 11), (.mv (.t 7)), none, .any⟩, ⟨(some 12), (.mv (.t 6)), none, .any⟩, ⟨(some 13), (.bin .sub none (.t 11) (.t 12)), none, .any⟩, ⟨(some 14), (.bin .gtr none (.t 13) (.c (.int .u32 1))), none, .any⟩] false [0, 1, 6, 7, 14] []) (.cond (.t 14) .skip (.exit 0))) ic97_1)
def ic97_3 : IC := (.seq (.reg [⟨(some 28), (.mv (.t 0)), none, .any⟩, ⟨(some 29), (.mv (.t 1)), none, .any⟩, ⟨(some 30), (.mv (.t 6)), none, .any⟩, ⟨(some 31), (.call 96 [((.t 29), (some 1)), ((.t 30), none), ((.c (.int .u32 0)), none)]), none, .any⟩, ⟨(some 32), (.call 121 [((.t 28), (some 1)), ((.t 31), (some 1))]), none, .any⟩, ⟨(some 27), (.mv (.t 32)), none, .any⟩, ⟨(some 33), (.ext (.t 27) 0), none, .any⟩, ⟨(some 34), (.ext (.t 27) 1), none, .any⟩, ⟨(some 9), (.mv (.t 33)), none, .any⟩, ⟨(some 10), (.mv (.t 34)), none, .any⟩] false [6, 9] []) (.seq (.reg [⟨(some 35), (.mv (.t 6)), none, .any⟩, ⟨(some 36), (.mv (.t 9)), none, .any⟩, ⟨(some 4), (.mv (.t 35)), none, .any⟩, ⟨(some 5), (.mv (.t 36)), none, .any⟩] false [4, 5] []) .ret))
def ic97 : IC := (.seq (.reg [⟨(some 4), (.mv (.c (.int .u32 0))), none, .any⟩, ⟨(some 5), (.mv (.c .nil)), none, .any⟩] false [0, 1] []) (.seq (.reg [⟨(some 6), (.mv (.c (.int .u32 0))), none, .any⟩, ⟨(some 7), (.mv (.c (.int .u32 1000000000))), none, .any⟩] false [0, 1, 6, 7] []) (.seq (.block 0 (.loop ic97_2)) ic97_3)))
def kp97 : List (Nat × Keep) := [(0, ⟨[0, 1], [], []⟩),
  (1, ⟨[0, 1, 6, 7], [], []⟩),
  (2, ⟨[0, 1, 6, 7, 14], [], []⟩),
  (3, ⟨[0, 1, 6, 7, 8], [], []⟩),
  (4, ⟨[0, 1, 6, 7, 8, 24], [], []⟩),
  (5, ⟨[0, 1, 6, 7], [], []⟩),
  (6, ⟨[0, 1, 6, 7], [], []⟩),
  (7, ⟨[6, 9], [], []⟩),
  (8, ⟨[4, 5], [], []⟩)]
theorem c97 : (Tryz.f97.body.bind fun c => compC Tryz.prog 37 [] kp97 c) = some ic97 := by kernel_rfl
theorem e97 {args : List AV} {r : AV} (ha : args.length ≤ 37) (h : VC e0 ic97 (retQ [(4, none), (5, none)] r) ⟨argT 0 args, []⟩) : Fn 97 args r := fn_of Tryz.func97 rfl (by kernel_rfl) c97 ha (by decide) h

def ic98_1 : IC := (.block 1 (.reg [⟨(some 16), (.mv (.t 3)), none, .any⟩, ⟨(some 17), (.bin .sub none (.t 16) (.c (.int .i64 1))), none, .any⟩, ⟨(some 3), (.mv (.t 17)), none, .any⟩] false [0, 3] []))
def ic98_2 : IC := (.seq (.seq (.reg [⟨(some 6), (.mv (.t 3)), none, .any⟩, ⟨(some 7), (.bin .gtr none (.t 6) (.c (.int .i64 0))), none, .any⟩, ⟨(some 8), (.mv (.t 7)), none, .any⟩, ⟨(some 9), (.mv (.t 0)), (some (8, true)), .any⟩, ⟨(some 10), (.mv (.t 3)), (some (8, true)), .any⟩, ⟨(some 11), (.bin .sub none (.t 10) (.c (.int .i64 1))), (some (8, true)), .any⟩, ⟨(some 12), (.ia 1 (.t 9) (.t 11)), (some (8, true)), .any⟩, ⟨(some 13), (.ld none (.t 12)), (some (8, true)), .any⟩, ⟨(some 14), (.bin .eql none (.t 13) (.c (.int .u32 0))), (some (8, true)), .any⟩, ⟨(some 15), (.pick (.t 8) (.t 14) (.c (.bool false))), none, .any⟩] false [0, 3, 15] []) (.cond (.t 15) .skip (.exit 0))) ic98_1)
def ic98_3 : IC := (.seq (.reg [⟨(some 18), (.mv (.t 3)), none, .any⟩, ⟨(some 2), (.mv (.t 18)), none, .any⟩] false [2] []) .ret)
def ic98 : IC := (.seq (.reg [⟨(some 2), (.mv (.c (.int .i64 0))), none, .any⟩] false [0] []) (.seq (.reg [⟨(some 4), (.mv (.t 0)), none, .any⟩, ⟨(some 5), (.len false (.t 4)), none, .any⟩, ⟨(some 3), (.mv (.t 5)), none, .any⟩] false [0, 3] []) (.seq (.block 0 (.loop ic98_2)) ic98_3)))
def kp98 : List (Nat × Keep) := [(0, ⟨[0], [], []⟩),
  (1, ⟨[0, 3], [], []⟩),
  (2, ⟨[0, 3, 15], [], []⟩),
  (3, ⟨[0, 3], [], []⟩),
  (4, ⟨[2], [], []⟩)]
theorem c98 : (Tryz.f98.body.bind fun c => compC Tryz.prog 19 [] kp98 c) = some ic98 := by kernel_rfl
theorem e98 {args : List AV} {r : AV} (ha : args.length ≤ 19) (h : VC e0 ic98 (retQ [(2, none)] r) ⟨argT 0 args, []⟩) : Fn 98 args r := fn_of Tryz.func98 rfl (by kernel_rfl) c98 ha (by decide) h

def ic99_1 : IC := (.seq (.reg [⟨(some 4), (.mv (.c (.int .i64 (-1)))), none, .any⟩] false [4] []) .ret)
def ic99_2 : IC := (.seq (.reg [⟨(some 4), (.mv (.c (.int .i64 0))), none, .any⟩] false [4] []) .ret)
def ic99_3 : IC := (.seq (.seq (.reg [⟨(some 17), (.mv (.t 0)), none, .any⟩, ⟨(some 18), (.mv (.t 1)), none, .any⟩, ⟨(some 19), (.bin .gtr none (.t 17) (.t 18)), none, .any⟩] false [19] []) (.cond (.t 19) (.seq (.reg [⟨(some 4), (.mv (.c (.int .i64 1))), none, .any⟩] false [4] []) .ret) .skip)) ic99_2)
def ic99_4 : IC := (.seq (.seq (.reg [⟨(some 14), (.mv (.t 0)), none, .any⟩, ⟨(some 15), (.mv (.t 1)), none, .any⟩, ⟨(some 16), (.bin .lss none (.t 14) (.t 15)), none, .any⟩] false [0, 1, 16] []) (.cond (.t 16) (.seq (.reg [⟨(some 4), (.mv (.c (.int .i64 (-1)))), none, .any⟩] false [4] []) .ret) .skip)) ic99_3)
def ic99_5 : IC := (.seq (.seq (.reg [⟨(some 13), (.mv (.t 6)), none, .any⟩] false [0, 1, 13] []) (.cond (.t 13) (.seq (.reg [⟨(some 4), (.mv (.c (.int .i64 1))), none, .any⟩] false [4] []) .ret) .skip)) ic99_4)
def ic99 : IC := (.seq (.reg [⟨(some 4), (.mv (.c (.int .i64 0))), none, .any⟩] false [0, 1] []) (.seq (.reg [⟨(some 7), (.mv (.t 0)), none, .any⟩, ⟨(some 8), (.call 132 [((.t 7), none)]), none, .any⟩, ⟨(some 5), (.mv (.t 8)), none, .any⟩] false [0, 1, 5] []) (.seq (.reg [⟨(some 9), (.mv (.t 1)), none, .any⟩, ⟨(some 10), (.call 132 [((.t 9), none)]), none, .any⟩, ⟨(some 6), (.mv (.t 10)), none, .any⟩] false [0, 1, 5, 6] []) (.seq (.seq (.reg [⟨(some 11), (.mv (.t 5)), none, .any⟩] false [0, 1, 6, 11] []) (.cond (.t 11) (.seq (.seq (.reg [⟨(some 12), (.mv (.t 6)), none, .any⟩] false [12] []) (.cond (.t 12) (.seq (.reg [⟨(some 4), (.mv (.c (.int .i64 0))), none, .any⟩] false [4] []) .ret) .skip)) ic99_1) .skip)) ic99_5))))
def kp99 : List (Nat × Keep) := [(0, ⟨[0, 1], [], []⟩),
  (1, ⟨[0, 1, 5], [], []⟩),
  (2, ⟨[0, 1, 5, 6], [], []⟩),
  (3, ⟨[0, 1, 6, 11], [], []⟩),
  (4, ⟨[12], [], []⟩),
  (5, ⟨[4], [], []⟩),
  (6, ⟨[4], [], []⟩),
  (7, ⟨[0, 1, 13], [], []⟩),
  (8, ⟨[4], [], []⟩),
  (9, ⟨[0, 1, 16], [], []⟩),
  (10, ⟨[4], [], []⟩),
  (11, ⟨[19], [], []⟩),
  (12, ⟨[4], [], []⟩),
  (13, ⟨[4], [], []⟩)]
theorem c99 : (Tryz.f99.body.bind fun c => compC Tryz.prog 20 [] kp99 c) = some ic99 := by kernel_rfl
theorem e99 {args : List AV} {r : AV} (ha : args.length ≤ 20) (h : VC e0 ic99 (retQ [(4, none)] r) ⟨argT 0 args, []⟩) : Fn 99 args r := fn_of Tryz.func99 rfl (by kernel_rfl) c99 ha (by decide) h

def ic100_1 : IC := (.seq (.reg [⟨(some 4), (.mv (.c (.int .i64 (-1)))), none, .any⟩] false [4] []) .ret)
def ic100_2 : IC := (.seq (.reg [⟨(some 4), (.mv (.c (.int .i64 0))), none, .any⟩] false [4] []) .ret)
def ic100_3 : IC := (.seq (.seq (.reg [⟨(some 17), (.mv (.t 0)), none, .any⟩, ⟨(some 18), (.mv (.t 1)), none, .any⟩, ⟨(some 19), (.bin .gtr none (.t 17) (.t 18)), none, .any⟩] false [19] []) (.cond (.t 19) (.seq (.reg [⟨(some 4), (.mv (.c (.int .i64 1))), none, .any⟩] false [4] []) .ret) .skip)) ic100_2)
def ic100_4 : IC := (.seq (.seq (.reg [⟨(some 14), (.mv (.t 0)), none, .any⟩, ⟨(some 15), (.mv (.t 1)), none, .any⟩, ⟨(some 16), (.bin .lss none (.t 14) (.t 15)), none, .any⟩] false [0, 1, 16] []) (.cond (.t 16) (.seq (.reg [⟨(some 4), (.mv (.c (.int .i64 (-1)))), none, .any⟩] false [4] []) .ret) .skip)) ic100_3)
def ic100_5 : IC := (.seq (.seq (.reg [⟨(some 13), (.mv (.t 6)), none, .any⟩] false [0, 1, 13] []) (.cond (.t 13) (.seq (.reg [⟨(some 4), (.mv (.c (.int .i64 1))), none, .any⟩] false [4] []) .ret) .skip)) ic100_4)
def ic100 : IC := (.seq (.reg [⟨(some 4), (.mv (.c (.int .i64 0))), none, .any⟩] false [0, 1] []) (.seq (.reg [⟨(some 7), (.mv (.t 0)), none, .any⟩, ⟨(some 8), (.call 133 [((.t 7), none)]), none, .any⟩, ⟨(some 5), (.mv (.t 8)), none, .any⟩] false [0, 1, 5] []) (.seq (.reg [⟨(some 9), (.mv (.t 1)), none, .any⟩, ⟨(some 10), (.call 133 [((.t 9), none)]), none, .any⟩, ⟨(some 6), (.mv (.t 10)), none, .any⟩] false [0, 1, 5, 6] []) (.seq (.seq (.reg [⟨(some 11), (.mv (.t 5)), none, .any⟩] false [0, 1, 6, 11] []) (.cond (.t 11) (.seq (.seq (.reg [⟨(some 12), (.mv (.t 6)), none, .any⟩] false [12] []) (.cond (.t 12) (.seq (.reg [⟨(some 4), (.mv (.c (.int .i64 0))), none, .any⟩] false [4] []) .ret) .skip)) ic100_1) .skip)) ic100_5))))
def kp100 : List (Nat × Keep) := [(0, ⟨[0, 1], [], []⟩),
  (1, ⟨[0, 1, 5], [], []⟩),
  (2, ⟨[0, 1, 5, 6], [], []⟩),
  (3, ⟨[0, 1, 6, 11], [], []⟩),
  (4, ⟨[12], [], []⟩),
  (5, ⟨[4], [], []⟩),
  (6, ⟨[4], [], []⟩),
  (7, ⟨[0, 1, 13], [], []⟩),
  (8, ⟨[4], [], []⟩),
  (9, ⟨[0, 1, 16], [], []⟩),
  (10, ⟨[4], [], []⟩),
  (11, ⟨[19], [], []⟩),
  (12, ⟨[4], [], []⟩),
  (13, ⟨[4], [], []⟩)]
theorem c100 : (Tryz.f100.body.bind fun c => compC Tryz.prog 20 [] kp100 c) = some ic100 := by kernel_rfl
theorem e100 {args : List AV} {r : AV} (ha : args.length ≤ 20) (h : VC e0 ic100 (retQ [(4, none)] r) ⟨argT 0 args, []⟩) : Fn 100 args r := fn_of Tryz.func100 rfl (by kernel_rfl) c100 ha (by decide) h

def ic105_1 : IC := (.seq (.block 1 (.seq (.reg [⟨(some 18), (.mv (.t 16)), none, .any⟩, ⟨(some 19), (.ia 1 (.t 14) (.t 16)), none, .any⟩, ⟨(some 20), (.ld none (.t 19)), none, .any⟩, ⟨(some 9), (.mv (.t 18)), none, .any⟩, ⟨(some 10), (.mv (.t 20)), none, .any⟩] false [0, 1, 2, 3, 8, 9, 10, 14, 15, 16] [999999]) (.seq (.reg [⟨(some 21), (.mv (.t 0)), none, .any⟩, ⟨(some 22), (.mv (.t 3)), none, .any⟩, ⟨(some 23), (.mv (.t 9)), none, .any⟩, ⟨(some 24), (.bin .add none (.t 22) (.t 23)), none, .any⟩, ⟨(some 25), (.ia 1 (.t 21) (.t 24)), none, .any⟩, ⟨(some 26), (.ld none (.t 25)), none, .any⟩, ⟨(some 27), (.conv .u64 (.t 26)), none, .any⟩, ⟨(some 28), (.mv (.t 10)), none, .any⟩, ⟨(some 29), (.conv .u64 (.t 28)), none, .any⟩, ⟨(some 30), (.mv (.t 2)), none, .any⟩, ⟨(some 31), (.conv .u64 (.t 30)), none, .any⟩, ⟨(some 32), (.bin .mul none (.t 29) (.t 31)), none, .any⟩, ⟨(some 33), (.bin .add none (.t 27) (.t 32)), none, .any⟩, ⟨(some 34), (.mv (.t 8)), none, .any⟩, ⟨(some 35), (.bin .add none (.t 33) (.t 34)), none, .any⟩, ⟨(some 11), (.mv (.t 35)), none, .any⟩] false [0, 1, 2, 3, 9, 11, 14, 15, 16] [999999]) (.seq (.reg [⟨(some 36), (.mv (.t 0)), none, .any⟩, ⟨(some 37), (.mv (.t 3)), none, .any⟩, ⟨(some 38), (.mv (.t 9)), none, .any⟩, ⟨(some 39), (.bin .add none (.t 37) (.t 38)), none, .any⟩, ⟨(some 40), (.mv (.t 11)), none, .any⟩, ⟨(some 41), (.bin .rem none (.t 40) (.c (.int .u64 1000000000))), none, .any⟩, ⟨(some 42), (.conv .u32 (.t 41)), none, .any⟩, ⟨(some 43), (.ia 1 (.t 36) (.t 39)), none, .any⟩, ⟨none, (.st 1 (.t 43) (.t 42)), none, .any⟩] false [0, 1, 2, 3, 11, 14, 15, 16] [999999]) (.reg [⟨(some 44), (.mv (.t 11)), none, .any⟩, ⟨(some 45), (.bin .quo none (.t 44) (.c (.int .u64 1000000000))), none, .any⟩, ⟨(some 8), (.mv (.t 45)), none, .any⟩] false [0, 1, 2, 3, 8, 14, 15, 16] [999999]))))) (.reg [⟨(some 46), (.bin .add none (.t 16) (.c (.int .i64 1))), none, .any⟩, ⟨(some 16), (.mv (.t 46)), none, .any⟩] false [0, 1, 2, 3, 8, 14, 15, 16] [999999]))
def ic105_2 : IC := (.seq (.reg [⟨(some 17), (.bin .lss none (.t 16) (.t 15)), none, .any⟩] false [0, 1, 2, 3, 8, 14, 15, 16, 17] [999999]) (.seq (.cond (.t 17) .skip (.exit 0)) ic105_1))
def ic105_3 : IC := (.seq (.block 3 (.seq (.reg [⟨(some 55), (.mv (.t 0)), none, .any⟩, ⟨(some 56), (.mv (.t 12)), none, .any⟩, ⟨(some 57), (.ia 1 (.t 55) (.t 56)), none, .any⟩, ⟨(some 58), (.ld none (.t 57)), none, .any⟩, ⟨(some 59), (.conv .u64 (.t 58)), none, .any⟩, ⟨(some 60), (.mv (.t 8)), none, .any⟩, ⟨(some 61), (.bin .add none (.t 59) (.t 60)), none, .any⟩, ⟨(some 13), (.mv (.t 61)), none, .any⟩] false [0, 12, 13] [999999]) (.seq (.reg [⟨(some 62), (.mv (.t 0)), none, .any⟩, ⟨(some 63), (.mv (.t 12)), none, .any⟩, ⟨(some 64), (.mv (.t 13)), none, .any⟩, ⟨(some 65), (.bin .rem none (.t 64) (.c (.int .u64 1000000000))), none, .any⟩, ⟨(some 66), (.conv .u32 (.t 65)), none, .any⟩, ⟨(some 67), (.ia 1 (.t 62) (.t 63)), none, .any⟩, ⟨none, (.st 1 (.t 67) (.t 66)), none, .any⟩] false [0, 12, 13] [999999]) (.reg [⟨(some 68), (.mv (.t 13)), none, .any⟩, ⟨(some 69), (.bin .quo none (.t 68) (.c (.int .u64 1000000000))), none, .any⟩, ⟨(some 8), (.mv (.t 69)), none, .any⟩] false [0, 8, 12] [999999])))) (.reg [⟨(some 53), (.mv (.t 12)), none, .any⟩, ⟨(some 54), (.bin .add none (.t 53) (.c (.int .i64 1))), none, .any⟩, ⟨(some 12), (.mv (.t 54)), none, .any⟩] false [0, 8, 12] [999999]))
def ic105_4 : IC := (.seq (.seq (.reg [⟨(some 51), (.mv (.t 8)), none, .any⟩, ⟨(some 52), (.bin .gtr none (.t 51) (.c (.int .u64 0))), none, .any⟩] false [0, 8, 12, 52] [999999]) (.cond (.t 52) .skip (.exit 2))) ic105_3)
def ic105_5 : IC := (.seq (.reg [⟨(some 47), (.mv (.t 3)), none, .any⟩, ⟨(some 48), (.mv (.t 1)), none, .any⟩, ⟨(some 49), (.len false (.t 48)), none, .any⟩, ⟨(some 50), (.bin .add none (.t 47) (.t 49)), none, .any⟩, ⟨(some 12), (.mv (.t 50)), none, .any⟩] false [0, 8, 12] [999999]) (.block 2 (.loop ic105_4)))
def ic105 : IC := (.seq (.reg [⟨(some 8), (.mv (.c (.int .u64 0))), none, .any⟩] false [0, 1, 2, 3, 8] [999999]) (.seq (.seq (.reg [⟨(some 14), (.mv (.t 1)), none, .any⟩, ⟨(some 15), (.len false (.t 14)), none, .any⟩, ⟨(some 16), (.mv (.c (.int .i64 0))), none, .any⟩] false [0, 1, 2, 3, 8, 14, 15, 16] [999999]) (.block 0 (.loop ic105_2))) ic105_5))
def kp105 : List (Nat × Keep) := [(0, ⟨[0, 1, 2, 3, 8], [999999], []⟩),
  (1, ⟨[0, 1, 2, 3, 8, 14, 15, 16], [999999], []⟩),
  (2, ⟨[0, 1, 2, 3, 8, 14, 15, 16, 17], [999999], []⟩),
  (3, ⟨[0, 1, 2, 3, 8, 9, 10, 14, 15, 16], [999999], []⟩),
  (4, ⟨[0, 1, 2, 3, 9, 11, 14, 15, 16], [999999], []⟩),
  (5, ⟨[0, 1, 2, 3, 11, 14, 15, 16], [999999], []⟩),
  (6, ⟨[0, 1, 2, 3, 8, 14, 15, 16], [999999], []⟩),
  (7, ⟨[0, 1, 2, 3, 8, 14, 15, 16], [999999], []⟩),
  (8, ⟨[0, 8, 12], [999999], []⟩),
  (9, ⟨[0, 8, 12, 52], [999999], []⟩),
  (10, ⟨[0, 8, 12], [999999], []⟩),
  (11, ⟨[0, 12, 13], [999999], []⟩),
  (12, ⟨[0, 12, 13], [999999], []⟩),
  (13, ⟨[0, 8, 12], [999999], []⟩)]
theorem c105 : (Tryz.f105.body.bind fun c => compC Tryz.prog 70 [] kp105 c) = some ic105 := by kernel_rfl
theorem e105 {E sz : Nat} {xs args xs2 : List AV} (ha : args.length + 1 ≤ 70) (h : VC e0 ic105 (retM E sz xs2) ⟨(0, .own pinned) :: argT 1 args, [(pinned, .row E sz xs)]⟩) : ConM Tryz.prog gs 105 E sz xs args xs2 := fnM_of Tryz.func105 rfl rfl c105 ha (by decide) h

def ic106_1 : IC := (.seq (.reg [⟨(some 24), (.mv (.t 0)), none, .any⟩, ⟨(some 25), (.mv (.t 6)), none, .any⟩, ⟨(some 26), (.sls 1 (.t 24) (some (.t 25)) none), none, .any⟩, ⟨(some 27), (.mv (.t 1)), none, .any⟩, ⟨(some 28), (.bin .rem none (.t 27) (.c (.int .i64 9))), none, .any⟩, ⟨(some 29), (.ga 1 9 (.g 0) (.t 28)), none, .any⟩, ⟨(some 30), (.ld none (.t 29)), none, .any⟩, ⟨(some 31), (.call 136 [((.t 26), (some 1)), ((.t 30), none)]), none, .any⟩, ⟨(some 23), (.mv (.t 31)), none, .any⟩, ⟨(some 32), (.ext (.t 23) 0), none, .any⟩, ⟨(some 33), (.ext (.t 23) 1), none, .any⟩, ⟨(some 34), (.ext (.t 23) 2), none, .any⟩, ⟨(some 4), (.mv (.t 32)), none, .any⟩, ⟨(some 7), (.mv (.t 33)), none, .any⟩, ⟨(some 8), (.mv (.t 34)), none, .any⟩] true [0, 4, 6, 7] []) (.seq (.reg [⟨(some 35), (.mv (.t 4)), none, .any⟩, ⟨(some 36), (.mv (.t 0)), none, .any⟩, ⟨(some 37), (.mv (.t 6)), none, .any⟩, ⟨(some 38), (.sls 1 (.t 36) none (some (.t 37))), none, .any⟩, ⟨(some 39), (.call 137 [((.t 38), (some 1))]), none, .any⟩, ⟨(some 40), (.mv (.t 7)), none, .any⟩, ⟨(some 41), (.lit false 94 1 [(.t 40)]), none, .any⟩, ⟨(some 42), (.app 94 1 4 (.t 39) (.t 41)), none, .any⟩, ⟨(some 43), (.call 92 [((.t 42), (some 1))]), none, .any⟩, ⟨(some 4), (.mv (.t 35)), none, .any⟩, ⟨(some 5), (.mv (.t 43)), none, .any⟩] false [4, 5] []) .ret))
def ic106 : IC := (.seq (.reg [⟨(some 4), (.mv (.c .nil)), none, .any⟩, ⟨(some 5), (.mv (.c .nil)), none, .any⟩] false [0, 1] []) (.seq (.reg [⟨(some 9), (.mv (.t 1)), none, .any⟩, ⟨(some 10), (.mx (.t 9) (.c (.int .i64 0))), none, .any⟩, ⟨(some 1), (.mv (.t 10)), none, .any⟩] false [0, 1] []) (.seq (.reg [⟨(some 11), (.mv (.t 1)), none, .any⟩, ⟨(some 12), (.bin .quo none (.t 11) (.c (.int .i64 9))), none, .any⟩, ⟨(some 13), (.mv (.t 0)), none, .any⟩, ⟨(some 14), (.len false (.t 13)), none, .any⟩, ⟨(some 15), (.mn (.t 12) (.t 14)), none, .any⟩, ⟨(some 6), (.mv (.t 15)), none, .any⟩] false [0, 1, 6] []) (.seq (.seq (.reg [⟨(some 16), (.mv (.t 1)), none, .any⟩, ⟨(some 17), (.bin .quo none (.t 16) (.c (.int .i64 9))), none, .any⟩, ⟨(some 18), (.mv (.t 0)), none, .any⟩, ⟨(some 19), (.len false (.t 18)), none, .any⟩, ⟨(some 20), (.bin .gtr none (.t 17) (.t 19)), none, .any⟩] false [0, 1, 6, 20] []) (.cond (.t 20) (.seq (.reg [⟨(some 21), (.mv (.t 0)), none, .any⟩, ⟨(some 22), (.call 92 [((.t 21), (some 1))]), none, .any⟩, ⟨(some 4), (.mv (.c .nil)), none, .any⟩, ⟨(some 5), (.mv (.t 22)), none, .any⟩] false [4, 5] []) .ret) .skip)) ic106_1))))
def kp106 : List (Nat × Keep) := [(0, ⟨[0, 1], [], []⟩),
  (1, ⟨[0, 1], [], []⟩),
  (2, ⟨[0, 1, 6], [], []⟩),
  (3, ⟨[0, 1, 6, 20], [], []⟩),
  (4, ⟨[4, 5], [], []⟩),
  (5, ⟨[0, 4, 6, 7], [], []⟩),
  (6, ⟨[4, 5], [], []⟩)]
theorem c106 : (Tryz.f106.body.bind fun c => compC Tryz.prog 44 [] kp106 c) = some ic106 := by kernel_rfl
theorem e106 {args : List AV} {r : AV} (ha : args.length ≤ 44) (h : VC e0 ic106 (retQ [(4, none), (5, none)] r) ⟨argT 0 args, []⟩) : Fn 106 args r := fn_of Tryz.func106 rfl (by kernel_rfl) c106 ha (by decide) h

def ic112_1 : IC := (.seq (.reg [⟨(some 20), (.fa 1 none (.t 2)), none, .any⟩, ⟨(some 21), (.ld none (.t 20)), none, .any⟩, ⟨(some 22), (.len true (.t 21)), none, .any⟩, ⟨(some 23), (.bin .sub none (.t 22) (.c (.int .i64 1))), none, .any⟩, ⟨(some 24), (.mv (.t 1)), none, .any⟩, ⟨(some 25), (.fa 2 none (.t 2)), none, .any⟩, ⟨(some 26), (.ld none (.t 25)), none, .any⟩, ⟨(some 27), (.bin .sub none (.t 24) (.t 26)), none, .any⟩, ⟨(some 28), (.bin .sub none (.t 23) (.t 27)), none, .any⟩, ⟨(some 5), (.mv (.t 28)), none, .any⟩] false [2, 5] [2]) (.seq (.reg [⟨(some 29), (.fa 1 none (.t 2)), none, .any⟩, ⟨(some 30), (.ld none (.t 29)), none, .any⟩, ⟨(some 31), (.mv (.t 5)), none, .any⟩, ⟨(some 32), (.ix (.t 30) (.t 31)), none, .any⟩, ⟨(some 33), (.bin .sub none (.t 32) (.c (.int .u8 48))), none, .any⟩, ⟨(some 34), (.conv .i64 (.t 33)), none, .any⟩, ⟨(some 4), (.mv (.t 34)), none, .any⟩] false [4] []) .ret))
def ic112 : IC := (.seq (.reg [⟨(some 2), (.box 23 (.t 0)), none, .any⟩, ⟨(some 4), (.mv (.c (.int .i64 0))), none, .any⟩] false [1, 2] [2]) (.seq (.seq (.reg [⟨(some 6), (.mv (.t 1)), none, .any⟩, ⟨(some 7), (.fa 2 none (.t 2)), none, .any⟩, ⟨(some 8), (.ld none (.t 7)), none, .any⟩, ⟨(some 9), (.bin .lss none (.t 6) (.t 8)), none, .any⟩, ⟨(some 10), (.mv (.t 9)), none, .any⟩, ⟨(some 11), (.mv (.t 1)), (some (10, false)), .any⟩, ⟨(some 12), (.fa 2 none (.t 2)), (some (10, false)), .any⟩, ⟨(some 13), (.ld none (.t 12)), (some (10, false)), .any⟩, ⟨(some 14), (.fa 1 none (.t 2)), (some (10, false)), .any⟩, ⟨(some 15), (.ld none (.t 14)), (some (10, false)), .any⟩, ⟨(some 16), (.len true (.t 15)), (some (10, false)), .any⟩, ⟨(some 17), (.bin .add none (.t 13) (.t 16)), (some (10, false)), .any⟩, ⟨(some 18), (.bin .geq none (.t 11) (.t 17)), (some (10, false)), .any⟩, ⟨(some 19), (.pick (.t 10) (.c (.bool true)) (.t 18)), none, .any⟩] false [1, 2, 19] [2]) (.cond (.t 19) (.seq (.reg [⟨(some 4), (.mv (.c (.int .i64 0))), none, .any⟩] false [4] []) .ret) .skip)) ic112_1))
def kp112 : List (Nat × Keep) := [(0, ⟨[1, 2], [2], []⟩),
  (1, ⟨[1, 2, 19], [2], []⟩),
  (2, ⟨[4], [], []⟩),
  (3, ⟨[2, 5], [2], []⟩),
  (4, ⟨[4], [], []⟩)]
theorem c112 : (Tryz.f112.body.bind fun c => compC Tryz.prog 35 [] kp112 c) = some ic112 := by kernel_rfl
theorem e112 {args : List AV} {r : AV} (ha : args.length ≤ 35) (h : VC e0 ic112 (retQ [(4, none)] r) ⟨argT 0 args, []⟩) : Fn 112 args r := fn_of Tryz.func112 rfl (by kernel_rfl) c112 ha (by decide) h


def ic120 : IC := (.seq (.reg [⟨(some 6), (.alloc 23 [(.bool false), (.str []), (.int .i64 0)]), none, .any⟩] false [0, 1, 2, 6] [6]) (.seq (.reg [⟨(some 8), (.mv (.t 0)), none, .any⟩, ⟨(some 9), (.mv (.t 1)), none, .any⟩, ⟨(some 10), (.call 76 [((.t 9), (some 1))]), none, .any⟩, ⟨(some 11), (.mv (.t 2)), none, .any⟩, ⟨(some 12), (.build [(.bool false), (.str []), (.int .i64 0)] [(0, (1, (.t 8))), (1, (1, (.t 10))), (2, (1, (.t 11)))]), none, .any⟩, ⟨(some 13), (.call 65 [((.t 12), none)]), none, .any⟩, ⟨(some 7), (.alloc 23 [(.bool false), (.str []), (.int .i64 0)]), none, .any⟩, ⟨none, (.st 3 (.t 7) (.t 13)), none, .any⟩] false [1, 6, 7] [6, 7]) (.seq (.reg [⟨(some 14), (.fa 0 none (.t 7)), none, .any⟩, ⟨(some 15), (.ld none (.t 14)), none, .any⟩, ⟨(some 16), (.mv (.t 15)), none, .any⟩, ⟨(some 17), (.mv (.t 1)), (some (16, true)), .any⟩, ⟨(some 18), (.len false (.t 17)), (some (16, true)), .any⟩, ⟨(some 19), (.bin .gtr none (.t 18) (.c (.int .i64 0))), (some (16, true)), .any⟩, ⟨(some 20), (.pick (.t 16) (.t 19) (.c (.bool false))), none, .any⟩, ⟨(some 21), (.fa 0 none (.t 7)), none, .any⟩, ⟨none, (.st 1 (.t 21) (.t 20)), none, .any⟩] false [6, 7] [6, 7]) (.seq (.reg [⟨(some 22), (.ld (some 3) (.t 7)), none, .any⟩, ⟨none, (.st 3 (.t 6) (.t 22)), none, .any⟩] false [6] [6]) .ret))))
def kp120 : List (Nat × Keep) := [(0, ⟨[0, 1, 2, 6], [6], []⟩),
  (1, ⟨[1, 6, 7], [6, 7], []⟩),
  (2, ⟨[6, 7], [6, 7], []⟩),
  (3, ⟨[6], [6], []⟩)]
theorem c120 : (Tryz.f120.body.bind fun c => compC Tryz.prog 23 [] kp120 c) = some ic120 := by kernel_rfl
theorem e120 {args : List AV} {r : AV} (ha : args.length ≤ 23) (h : VC e0 ic120 (retQ [(6, (some (some 3)))] r) ⟨argT 0 args, []⟩) : Fn 120 args r := fn_of Tryz.func120 rfl (by kernel_rfl) c120 ha (by decide) h

def ic121_1 : IC := (.reg [⟨(some 45), (.mv (.t 6)), none, .any⟩, ⟨(some 46), (.mv (.t 9)), none, .any⟩, ⟨(some 47), (.mv (.t 10)), none, .any⟩, ⟨(some 48), (.bin .sub none (.t 46) (.t 47)), none, .any⟩, ⟨(some 49), (.lit false 94 1 [(.t 48)]), none, .any⟩, ⟨(some 50), (.app 94 1 4 (.t 45) (.t 49)), none, .any⟩, ⟨(some 6), (.mv (.t 50)), none, .any⟩] false [1, 6, 7, 22, 23, 24] [21, 50])
def ic121_2 : IC := (.seq (.reg [⟨(some 7), (.mv (.c (.int .u32 0))), none, .any⟩] false [1, 6, 7, 9, 10, 22, 23, 24] [21, 50]) (.seq (.seq (.reg [⟨(some 40), (.mv (.t 9)), none, .any⟩, ⟨(some 41), (.mv (.t 10)), none, .any⟩, ⟨(some 42), (.bin .lss none (.t 40) (.t 41)), none, .any⟩] false [1, 6, 7, 9, 10, 22, 23, 24, 42] [21, 50]) (.cond (.t 42) (.seq (.reg [⟨(some 43), (.mv (.t 9)), none, .any⟩, ⟨(some 44), (.bin .add none (.t 43) (.c (.int .u32 1000000000))), none, .any⟩, ⟨(some 9), (.mv (.t 44)), none, .any⟩] false [1, 6, 9, 10, 22, 23, 24] [21, 50]) (.reg [⟨(some 7), (.mv (.c (.int .u32 1))), none, .any⟩] false [1, 6, 7, 9, 10, 22, 23, 24] [21, 50])) .skip)) ic121_1))
def ic121_3 : IC := (.reg [⟨(some 51), (.bin .add none (.t 24) (.c (.int .i64 1))), none, .any⟩, ⟨(some 24), (.mv (.t 51)), none, .any⟩] false [1, 6, 7, 22, 23, 24] [21, 50])
def ic121_4 : IC := (.seq (.block 1 (.seq (.reg [⟨(some 26), (.mv (.t 24)), none, .any⟩, ⟨(some 27), (.ia 1 (.t 22) (.t 24)), none, .any⟩, ⟨(some 28), (.ld none (.t 27)), none, .any⟩, ⟨(some 8), (.mv (.t 26)), none, .any⟩, ⟨(some 9), (.mv (.t 28)), none, .any⟩] false [1, 6, 7, 8, 9, 22, 23, 24] [21, 50]) (.seq (.reg [⟨(some 29), (.mv (.t 7)), none, .any⟩, ⟨(some 10), (.mv (.t 29)), none, .any⟩] false [1, 6, 8, 9, 10, 22, 23, 24] [21, 50]) (.seq (.seq (.reg [⟨(some 30), (.mv (.t 8)), none, .any⟩, ⟨(some 31), (.mv (.t 1)), none, .any⟩, ⟨(some 32), (.len false (.t 31)), none, .any⟩, ⟨(some 33), (.bin .lss none (.t 30) (.t 32)), none, .any⟩] false [1, 6, 8, 9, 10, 22, 23, 24, 33] [21, 50]) (.cond (.t 33) (.reg [⟨(some 34), (.mv (.t 10)), none, .any⟩, ⟨(some 35), (.mv (.t 1)), none, .any⟩, ⟨(some 36), (.mv (.t 8)), none, .any⟩, ⟨(some 37), (.ia 1 (.t 35) (.t 36)), none, .any⟩, ⟨(some 38), (.ld none (.t 37)), none, .any⟩, ⟨(some 39), (.bin .add none (.t 34) (.t 38)), none, .any⟩, ⟨(some 10), (.mv (.t 39)), none, .any⟩] false [1, 6, 9, 10, 22, 23, 24] [21, 50]) .skip)) ic121_2)))) ic121_3)
def ic121_5 : IC := (.seq (.reg [⟨(some 25), (.bin .lss none (.t 24) (.t 23)), none, .any⟩] false [1, 6, 7, 22, 23, 24, 25] [21, 50]) (.seq (.cond (.t 25) .skip (.exit 0)) ic121_4))
def ic121_6 : IC := (.seq (.reg [⟨(some 52), (.mv (.t 6)), none, .any⟩, ⟨(some 53), (.call 92 [((.t 52), (some 1))]), none, .any⟩, ⟨(some 4), (.mv (.t 53)), none, .any⟩, ⟨(some 5), (.mv (.c (.bool true))), none, .any⟩] false [4, 5] []) .ret)
def ic121_7 : IC := (.seq (.reg [⟨(some 15), (.mv (.t 1)), none, .any⟩, ⟨(some 16), (.mv (.t 1)), none, .any⟩, ⟨(some 17), (.call 98 [((.t 16), (some 1))]), none, .any⟩, ⟨(some 18), (.sls 1 (.t 15) none (some (.t 17))), none, .any⟩, ⟨(some 1), (.mv (.t 18)), none, .any⟩] false [0, 1] []) (.seq (.reg [⟨(some 19), (.mv (.t 0)), none, .any⟩, ⟨(some 20), (.len false (.t 19)), none, .any⟩, ⟨(some 21), (.mk 94 4 (.int .u32 0) (.c (.int .i64 0)) (.t 20)), none, .any⟩, ⟨(some 6), (.mv (.t 21)), none, .any⟩] false [0, 1, 6] [21, 50]) (.seq (.reg [⟨(some 7), (.mv (.c (.int .u32 0))), none, .any⟩] false [0, 1, 6, 7] [21, 50]) (.seq (.seq (.reg [⟨(some 22), (.mv (.t 0)), none, .any⟩, ⟨(some 23), (.len false (.t 22)), none, .any⟩, ⟨(some 24), (.mv (.c (.int .i64 0))), none, .any⟩] false [1, 6, 7, 22, 23, 24] [21, 50]) (.block 0 (.loop ic121_5))) ic121_6))))
def ic121 : IC := (.seq (.reg [⟨(some 4), (.mv (.c .nil)), none, .any⟩, ⟨(some 5), (.mv (.c (.bool false))), none, .any⟩] false [0, 1] []) (.seq (.seq (.reg [⟨(some 11), (.mv (.t 0)), none, .any⟩, ⟨(some 12), (.mv (.t 1)), none, .any⟩, ⟨(some 13), (.call 74 [((.t 11), (some 1)), ((.t 12), (some 1))]), none, .any⟩, ⟨(some 14), (.bin .lss none (.t 13) (.c (.int .i64 0))), none, .any⟩] false [0, 1, 14] []) (.cond (.t 14) (.seq (.reg [⟨(some 4), (.mv (.c .nil)), none, .any⟩, ⟨(some 5), (.mv (.c (.bool false))), none, .any⟩] false [4, 5] []) .ret) .skip)) ic121_7))
def kp121 : List (Nat × Keep) := [(0, ⟨[0, 1], [], []⟩),
  (1, ⟨[0, 1, 14], [], []⟩),
  (2, ⟨[4, 5], [], []⟩),
  (3, ⟨[0, 1], [], []⟩),
  (4, ⟨[0, 1, 6], [21, 50], []⟩),
  (5, ⟨[0, 1, 6, 7], [21, 50], []⟩),
  (6, ⟨[1, 6, 7, 22, 23, 24], [21, 50], []⟩),
  (7, ⟨[1, 6, 7, 22, 23, 24, 25], [21, 50], []⟩),
  (8, ⟨[1, 6, 7, 8, 9, 22, 23, 24], [21, 50], []⟩),
  (9, ⟨[1, 6, 8, 9, 10, 22, 23, 24], [21, 50], []⟩),
  (10, ⟨[1, 6, 8, 9, 10, 22, 23, 24, 33], [21, 50], []⟩),
  (11, ⟨[1, 6, 9, 10, 22, 23, 24], [21, 50], []⟩),
  (12, ⟨[1, 6, 7, 9, 10, 22, 23, 24], [21, 50], []⟩),
  (13, ⟨[1, 6, 7, 9, 10, 22, 23, 24, 42], [21, 50], []⟩),
  (14, ⟨[1, 6, 9, 10, 22, 23, 24], [21, 50], []⟩),
  (15, ⟨[1, 6, 7, 9, 10, 22, 23, 24], [21, 50], []⟩),
  (16, ⟨[1, 6, 7, 22, 23, 24], [21, 50], []⟩),
  (17, ⟨[1, 6, 7, 22, 23, 24], [21, 50], []⟩),
  (18, ⟨[4, 5], [], []⟩)]
theorem c121 : (Tryz.f121.body.bind fun c => compC Tryz.prog 54 [] kp121 c) = some ic121 := by kernel_rfl
theorem e121 {args : List AV} {r : AV} (ha : args.length ≤ 54) (h : VC e0 ic121 (retQ [(4, none), (5, none)] r) ⟨argT 0 args, []⟩) : Fn 121 args r := fn_of Tryz.func121 rfl (by kernel_rfl) c121 ha (by decide) h




def ic132 : IC := (.seq (.reg [⟨(some 2), (.mv (.c (.bool false))), none, .any⟩] false [0] []) (.seq (.reg [⟨(some 3), (.mv (.t 0)), none, .any⟩, ⟨(some 4), (.mv (.t 0)), none, .any⟩, ⟨(some 5), (.bin .neq none (.t 3) (.t 4)), none, .any⟩, ⟨(some 2), (.mv (.t 5)), none, .any⟩] false [2] []) .ret))
def kp132 : List (Nat × Keep) := [(0, ⟨[0], [], []⟩),
  (1, ⟨[2], [], []⟩)]
theorem c132 : (Tryz.f132.body.bind fun c => compC Tryz.prog 6 [] kp132 c) = some ic132 := by kernel_rfl
theorem e132 {args : List AV} {r : AV} (ha : args.length ≤ 6) (h : VC e0 ic132 (retQ [(2, none)] r) ⟨argT 0 args, []⟩) : Fn 132 args r := fn_of Tryz.func132 rfl (by kernel_rfl) c132 ha (by decide) h


def ic133 : IC := (.seq (.reg [⟨(some 2), (.mv (.c (.bool false))), none, .any⟩] false [0] []) (.seq (.reg [⟨(some 3), (.mv (.t 0)), none, .any⟩, ⟨(some 4), (.mv (.t 0)), none, .any⟩, ⟨(some 5), (.bin .neq none (.t 3) (.t 4)), none, .any⟩, ⟨(some 2), (.mv (.t 5)), none, .any⟩] false [2] []) .ret))
def kp133 : List (Nat × Keep) := [(0, ⟨[0], [], []⟩),
  (1, ⟨[2], [], []⟩)]
theorem c133 : (Tryz.f133.body.bind fun c => compC Tryz.prog 6 [] kp133 c) = some ic133 := by kernel_rfl
theorem e133 {args : List AV} {r : AV} (ha : args.length ≤ 6) (h : VC e0 ic133 (retQ [(2, none)] r) ⟨argT 0 args, []⟩) : Fn 133 args r := fn_of Tryz.func133 rfl (by kernel_rfl) c133 ha (by decide) h

def ic136_1 : IC := (.seq (.block 1 (.seq (.reg [⟨(some 21), (.mv (.t 7)), none, .any⟩, ⟨(some 22), (.bin .mul none (.t 21) (.c (.int .u64 1000000000))), none, .any⟩, ⟨(some 23), (.mv (.t 0)), none, .any⟩, ⟨(some 24), (.mv (.t 8)), none, .any⟩, ⟨(some 25), (.ia 1 (.t 23) (.t 24)), none, .any⟩, ⟨(some 26), (.ld none (.t 25)), none, .any⟩, ⟨(some 27), (.conv .u64 (.t 26)), none, .any⟩, ⟨(some 28), (.bin .add none (.t 22) (.t 27)), none, .any⟩, ⟨(some 7), (.mv (.t 28)), none, .any⟩] false [0, 1, 4, 7, 8] [13]) (.seq (.reg [⟨(some 29), (.mv (.t 4)), none, .any⟩, ⟨(some 30), (.mv (.t 8)), none, .any⟩, ⟨(some 31), (.mv (.t 7)), none, .any⟩, ⟨(some 32), (.mv (.t 1)), none, .any⟩, ⟨(some 33), (.conv .u64 (.t 32)), none, .any⟩, ⟨(some 34), (.bin .quo none (.t 31) (.t 33)), none, .any⟩, ⟨(some 35), (.conv .u32 (.t 34)), none, .any⟩, ⟨(some 36), (.ia 1 (.t 29) (.t 30)), none, .any⟩, ⟨none, (.st 1 (.t 36) (.t 35)), none, .any⟩] false [0, 1, 4, 7, 8] [13]) (.reg [⟨(some 37), (.mv (.t 7)), none, .any⟩, ⟨(some 38), (.mv (.t 1)), none, .any⟩, ⟨(some 39), (.conv .u64 (.t 38)), none, .any⟩, ⟨(some 40), (.bin .rem none (.t 37) (.t 39)), none, .any⟩, ⟨(some 7), (.mv (.t 40)), none, .any⟩] false [0, 1, 4, 7, 8] [13])))) (.reg [⟨(some 19), (.mv (.t 8)), none, .any⟩, ⟨(some 20), (.bin .sub none (.t 19) (.c (.int .i64 1))), none, .any⟩, ⟨(some 8), (.mv (.t 20)), none, .any⟩] false [0, 1, 4, 7, 8] [13]))
def ic136_2 : IC := (.seq (.seq (.reg [⟨(some 17), (.mv (.t 8)), none, .any⟩, ⟨(some 18), (.bin .geq none (.t 17) (.c (.int .i64 0))), none, .any⟩] false [0, 1, 4, 7, 8, 18] [13]) (.cond (.t 18) .skip (.exit 0))) ic136_1)
def ic136_3 : IC := (.seq (.reg [⟨(some 41), (.mv (.t 4)), none, .any⟩, ⟨(some 42), (.call 92 [((.t 41), (some 1))]), none, .any⟩, ⟨(some 43), (.mv (.t 7)), none, .any⟩, ⟨(some 44), (.conv .u32 (.t 43)), none, .any⟩, ⟨(some 4), (.mv (.t 42)), none, .any⟩, ⟨(some 5), (.mv (.t 44)), none, .any⟩, ⟨(some 6), (.mv (.c (.bool true))), none, .any⟩] false [4, 5, 6] [13]) .ret)
def ic136_4 : IC := (.seq (.reg [⟨(some 11), (.mv (.t 0)), none, .any⟩, ⟨(some 12), (.len false (.t 11)), none, .any⟩, ⟨(some 13), (.mk 94 4 (.int .u32 0) (.t 12) (.t 12)), none, .any⟩, ⟨(some 4), (.mv (.t 13)), none, .any⟩] false [0, 1, 4] [13]) (.seq (.reg [⟨(some 7), (.mv (.c (.int .u64 0))), none, .any⟩] false [0, 1, 4, 7] [13]) (.seq (.seq (.reg [⟨(some 14), (.mv (.t 0)), none, .any⟩, ⟨(some 15), (.len false (.t 14)), none, .any⟩, ⟨(some 16), (.bin .sub none (.t 15) (.c (.int .i64 1))), none, .any⟩, ⟨(some 8), (.mv (.t 16)), none, .any⟩] false [0, 1, 4, 7, 8] [13]) (.block 0 (.loop ic136_2))) ic136_3)))
def ic136 : IC := (.seq (.reg [⟨(some 4), (.mv (.c .nil)), none, .any⟩, ⟨(some 5), (.mv (.c (.int .u32 0))), none, .any⟩, ⟨(some 6), (.mv (.c (.bool false))), none, .any⟩] false [0, 1] []) (.seq (.seq (.reg [⟨(some 9), (.mv (.t 1)), none, .any⟩, ⟨(some 10), (.bin .eql none (.t 9) (.c (.int .u32 0))), none, .any⟩] false [0, 1, 10] []) (.cond (.t 10) (.seq (.reg [⟨(some 4), (.mv (.c .nil)), none, .any⟩, ⟨(some 5), (.mv (.c (.int .u32 0))), none, .any⟩, ⟨(some 6), (.mv (.c (.bool false))), none, .any⟩] false [4, 5, 6] [13]) .ret) .skip)) ic136_4))
def kp136 : List (Nat × Keep) := [(0, ⟨[0, 1], [], []⟩),
  (1, ⟨[0, 1, 10], [], []⟩),
  (2, ⟨[4, 5, 6], [13], []⟩),
  (3, ⟨[0, 1, 4], [13], []⟩),
  (4, ⟨[0, 1, 4, 7], [13], []⟩),
  (5, ⟨[0, 1, 4, 7, 8], [13], []⟩),
  (6, ⟨[0, 1, 4, 7, 8, 18], [13], []⟩),
  (7, ⟨[0, 1, 4, 7, 8], [13], []⟩),
  (8, ⟨[0, 1, 4, 7, 8], [13], []⟩),
  (9, ⟨[0, 1, 4, 7, 8], [13], []⟩),
  (10, ⟨[0, 1, 4, 7, 8], [13], []⟩),
  (11, ⟨[4, 5, 6], [13], []⟩)]
theorem c136 : (Tryz.f136.body.bind fun c => compC Tryz.prog 45 [] kp136 c) = some ic136 := by kernel_rfl
theorem e136 {args : List AV} {r : AV} (ha : args.length ≤ 45) (h : VC e0 ic136 (retQ [(4, none), (5, none), (6, none)] r) ⟨argT 0 args, []⟩) : Fn 136 args r := fn_of Tryz.func136 rfl (by kernel_rfl) c136 ha (by decide) h



abbrev i64 (n : Int) : AV := .int .i64 n
abbrev u32 (n : Nat) : AV := .int .u32 n
/-- A slice of limbs. -/
def L (xs : List Nat) : AV := .sl 1 (xs.map u32)

theorem wrap64 {x : Int} (h : -9223372036854775808 ≤ x) (h' : x < 9223372036854775808) : IntKind.i64.wrap x = x := by
  simp only [IntKind.wrap, IntKind.signed, IntKind.bits, Bool.true_and, decide_eq_true_eq, Nat.reduceSub, Int.reducePow, ge_iff_le]
  split <;> omega
theorem wrap32 {x : Int} (h : 0 ≤ x) (h' : x < 4294967296) : IntKind.u32.wrap x = x := by
  simp only [IntKind.wrap, IntKind.signed, IntKind.bits, Bool.false_and, Bool.false_eq_true, if_false]
  omega
theorem wrapU64 {x : Int} (h : 0 ≤ x) (h' : x < 18446744073709551616) : IntKind.u64.wrap x = x := by
  simp only [IntKind.wrap, IntKind.signed, IntKind.bits, Bool.false_and, Bool.false_eq_true, if_false]
  omega
theorem getL {xs : List Nat} {i : Nat} (h : i < xs.length) : (xs.map u32).getD i .top = .int .u32 (xs.getD i 0) := by
  simp [List.getD_eq_getElem?_getD, h]
theorem lenL (xs : List Nat) : (xs.map u32).length = xs.length := by simp

theorem mapTake (xs : List Nat) (n : Nat) : (xs.map u32).take n = (xs.take n).map u32 := List.map_take.symm
theorem mapDrop (xs : List Nat) (n : Nat) : (xs.map u32).drop n = (xs.drop n).map u32 := List.map_drop.symm
/-- Without the zeros at the end. -/
def trim (xs : List Nat) : List Nat := (xs.reverse.dropWhile (· == 0)).reverse
theorem trim_nil : trim [] = [] := rfl
theorem trim_zero (xs : List Nat) : trim (xs ++ [0]) = trim xs := by simp [trim]
theorem trim_pos (xs : List Nat) {x : Nat} (h : x ≠ 0) : trim (xs ++ [x]) = xs ++ [x] := by simp [trim, h]
theorem trim_le (xs : List Nat) : (trim xs).length ≤ xs.length := by
  simp only [trim, List.length_reverse]
  exact Nat.le_trans (List.dropWhile_sublist _).length_le (by simp)
theorem take_last {xs : List Nat} {n : Nat} (h : n < xs.length) : xs.take (n + 1) = xs.take n ++ [xs.getD n 0] := by
  rw [List.take_add_one]; simp [List.getD_eq_getElem?_getD, h]

theorem con98 (xs : List Nat) (hl : xs.length < 1099511627776) : Fn 98 [L xs] (i64 (trim xs).length) := by
  refine e98 (by simp) ?_
  simp only [ic98, wkA, Nat.reduceEqDiff, Nat.reduceAdd, Nat.reduceSub, Nat.reduceLeDiff, Nat.reduceLT, Nat.reduceBEq, Nat.reduceBNe, reduceCtorEq, L, lenL]
  refine ⟨fun n s => s = ⟨[(0, L xs), (3, i64 n)], []⟩ ∧ n ≤ xs.length ∧ trim (xs.take n) = trim xs, xs.length, _, Gh.refl _, ⟨rfl, Nat.le_refl _, by simp⟩, ?_⟩
  rintro n s ⟨rfl, hn, ht⟩
  rcases n with _ | n
  · have h0 : decide (((0 : Nat) : Int) > 0) = false := decide_eq_false (by omega)
    simp only [ic98_2, ic98_3, h0, wkA, Nat.reduceEqDiff, Nat.reduceAdd, Nat.reduceSub, Nat.reduceLeDiff, Nat.reduceLT, Nat.reduceBEq, Nat.reduceBNe, reduceCtorEq, L, lenL]
    rw [← ht]; rfl
  · have h0 : decide (((n + 1 : Nat) : Int) > 0) = true := decide_eq_true (by omega)
    have h1 : IntKind.i64.wrap (((n + 1 : Nat) : Int) - 1) = n := by rw [wrap64] <;> omega
    simp only [ic98_2, ic98_1, ic98_3, wkA, Nat.reduceEqDiff, Nat.reduceAdd, Nat.reduceSub, Nat.reduceLeDiff, Nat.reduceLT, Nat.reduceBEq, Nat.reduceBNe, reduceCtorEq, L, lenL, h0, h1, Int.toNat_natCast, getL hn]
    refine ⟨⟨by omega, by omega⟩, ?_⟩
    rw [take_last hn] at ht
    rw [cnd_if]
    split
    · rename_i h
      have h : xs.getD n 0 = 0 := by simpa using h
      rw [h, trim_zero] at ht
      simp only [ic98_1, ic98_3, wkA, Nat.reduceEqDiff, Nat.reduceAdd, Nat.reduceSub, Nat.reduceLeDiff, Nat.reduceLT, Nat.reduceBEq, Nat.reduceBNe, reduceCtorEq, L, h1]
      exact ⟨_, n, Gh.refl _, by omega, rfl, by omega, ht⟩
    · rename_i h
      have h : xs.getD n 0 ≠ 0 := by simpa using h
      rw [trim_pos _ h] at ht
      simp only [ic98_3, wkA, Nat.reduceEqDiff, Nat.reduceAdd, Nat.reduceSub, Nat.reduceLeDiff, Nat.reduceLT, Nat.reduceBEq, Nat.reduceBNe, reduceCtorEq]
      rw [← ht]
      simp; omega

theorem con132 (x : Int) : Fn 132 [i64 x] (.bool false) := by
  refine e132 (by simp) ?_
  simp only [ic132, wkA, Nat.reduceEqDiff, Nat.reduceAdd, Nat.reduceSub, Nat.reduceLeDiff, Nat.reduceLT, Nat.reduceBEq, Nat.reduceBNe, reduceCtorEq, bne_self_eq_false]
theorem con133 (x : Int) : Fn 133 [.int .u32 x] (.bool false) := by
  refine e133 (by simp) ?_
  simp only [ic133, wkA, Nat.reduceEqDiff, Nat.reduceAdd, Nat.reduceSub, Nat.reduceLeDiff, Nat.reduceLT, Nat.reduceBEq, Nat.reduceBNe, reduceCtorEq, bne_self_eq_false]
def cmpI (x y : Int) : Int := if x < y then -1 else if y < x then 1 else 0
theorem con99 (x y : Int) : Fn 99 [i64 x, i64 y] (i64 (cmpI x y)) := by
  refine e99 (by simp) ?_
  simp only [ic99, wkA, Nat.reduceEqDiff, Nat.reduceAdd, Nat.reduceSub, Nat.reduceLeDiff, Nat.reduceLT, Nat.reduceBEq, Nat.reduceBNe, reduceCtorEq]
  refine callK_intro _ (con132 x) rfl ?_
  simp only [wkA, Nat.reduceEqDiff, Nat.reduceAdd, Nat.reduceSub, Nat.reduceLeDiff, Nat.reduceLT, Nat.reduceBEq, Nat.reduceBNe, reduceCtorEq]
  refine callK_intro _ (con132 y) rfl ?_
  simp only [ic99_1, ic99_2, ic99_3, ic99_4, ic99_5, wkA, Nat.reduceEqDiff, Nat.reduceAdd, Nat.reduceSub, Nat.reduceLeDiff, Nat.reduceLT, Nat.reduceBEq, Nat.reduceBNe, reduceCtorEq, decide_eq_true_eq, gt_iff_lt, cnd_if]
  unfold cmpI
  split <;> (try split) <;> rfl
theorem con100 (x y : Int) : Fn 100 [.int .u32 x, .int .u32 y] (i64 (cmpI x y)) := by
  refine e100 (by simp) ?_
  simp only [ic100, wkA, Nat.reduceEqDiff, Nat.reduceAdd, Nat.reduceSub, Nat.reduceLeDiff, Nat.reduceLT, Nat.reduceBEq, Nat.reduceBNe, reduceCtorEq]
  refine callK_intro _ (con133 x) rfl ?_
  simp only [wkA, Nat.reduceEqDiff, Nat.reduceAdd, Nat.reduceSub, Nat.reduceLeDiff, Nat.reduceLT, Nat.reduceBEq, Nat.reduceBNe, reduceCtorEq]
  refine callK_intro _ (con133 y) rfl ?_
  simp only [ic100_1, ic100_2, ic100_3, ic100_4, ic100_5, wkA, Nat.reduceEqDiff, Nat.reduceAdd, Nat.reduceSub, Nat.reduceLeDiff, Nat.reduceLT, Nat.reduceBEq, Nat.reduceBNe, reduceCtorEq, decide_eq_true_eq, gt_iff_lt, cnd_if]
  unfold cmpI
  split <;> (try split) <;> rfl

/-! ### Values of limbs -/
/-- What limbs stand for. -/
def lv : List Nat → Nat
  | [] => 0
  | x :: xs => x + 1000000000 * lv xs
/-- Limbs as they should be. -/
def ok (xs : List Nat) : Prop := ∀ x ∈ xs, x < 1000000000
theorem ok_nil : ok [] := by simp [ok]
theorem ok_append {xs ys : List Nat} : ok (xs ++ ys) ↔ ok xs ∧ ok ys := by
  simp only [ok, List.mem_append]
  exact ⟨fun h => ⟨fun x hx => h x (.inl hx), fun x hx => h x (.inr hx)⟩, fun h x hx => hx.elim (h.1 x) (h.2 x)⟩
theorem ok_one {x : Nat} : ok [x] ↔ x < 1000000000 := by simp [ok]
theorem ok_sub {xs ys : List Nat} (h : ok ys) (hs : ∀ x ∈ xs, x ∈ ys) : ok xs := fun x hx => h x (hs x hx)
theorem ok_get {xs : List Nat} (h : ok xs) (i : Nat) : xs.getD i 0 < 1000000000 := by
  simp only [List.getD_eq_getElem?_getD]
  cases hi : xs[i]? with
  | none => simp
  | some x => simp; exact h x (List.mem_of_getElem? hi)
theorem lv_append (xs ys : List Nat) : lv (xs ++ ys) = lv xs + 1000000000 ^ xs.length * lv ys := by
  induction xs with
  | nil => simp [lv]
  | cons x xs ih => simp only [List.cons_append, lv, ih, List.length_cons, Nat.pow_succ, Nat.mul_add]; rw [Nat.add_assoc, Nat.mul_comm (1000000000 ^ xs.length) 1000000000, Nat.mul_assoc]
theorem lv_one (x : Nat) : lv [x] = x := by simp [lv]
theorem lv_lt {xs : List Nat} (h : ok xs) : lv xs < 1000000000 ^ xs.length := by
  induction xs with
  | nil => simp [lv]
  | cons x xs ih =>
    have h1 := ih (fun y hy => h y (by simp [hy]))
    have h2 := h x (by simp)
    simp only [lv, List.length_cons, Nat.pow_succ]
    omega
theorem lv_zeros (n : Nat) : lv (List.replicate n 0) = 0 := by
  induction n with
  | zero => rfl
  | succ n ih => simp [List.replicate_succ, lv, ih]
theorem lv_take_succ {xs : List Nat} {n : Nat} (h : n < xs.length) : lv (xs.take (n + 1)) = lv (xs.take n) + 1000000000 ^ n * xs.getD n 0 := by
  rw [take_last h, lv_append, lv_one, List.length_take, Nat.min_eq_left (by omega)]
theorem lv_split (xs : List Nat) (n : Nat) (h : n ≤ xs.length) : lv xs = lv (xs.take n) + 1000000000 ^ n * lv (xs.drop n) := by
  have := lv_append (xs.take n) (xs.drop n)
  rw [List.take_append_drop, List.length_take, Nat.min_eq_left h] at this
  exact this
theorem trim_spec (xs : List Nat) : ∃ k, xs = trim xs ++ List.replicate k 0 := by
  obtain ⟨ys, rfl⟩ : ∃ ys : List Nat, xs = ys.reverse := ⟨xs.reverse, by simp⟩
  rw [show trim ys.reverse = (ys.dropWhile (· == 0)).reverse by simp [trim]]
  induction ys with
  | nil => exact ⟨0, rfl⟩
  | cons y ys ih =>
    by_cases h : y = 0
    · subst h
      obtain ⟨k, hk⟩ := ih
      refine ⟨k + 1, ?_⟩
      simp only [List.dropWhile_cons, BEq.rfl, if_true, List.reverse_cons]
      rw [List.replicate_succ', ← List.append_assoc, ← hk]
    · exact ⟨0, by simp [List.dropWhile_cons, h]⟩
theorem lv_trim (xs : List Nat) : lv (trim xs) = lv xs := by
  obtain ⟨k, hk⟩ := trim_spec xs
  conv => rhs; rw [hk]
  rw [lv_append, lv_zeros]; simp
theorem ok_trim {xs : List Nat} (h : ok xs) : ok (trim xs) := by
  obtain ⟨k, hk⟩ := trim_spec xs
  rw [hk] at h
  exact (ok_append.1 h).1
theorem trim_take (xs : List Nat) : xs.take (trim xs).length = trim xs := by
  obtain ⟨k, hk⟩ := trim_spec xs
  have : ∀ ys, ys = trim xs ++ List.replicate k 0 → ys.take (trim xs).length = trim xs := by rintro _ rfl; simp
  exact this xs hk
/-- The last limb of trimmed limbs is none. -/
theorem trim_last (xs : List Nat) (h : trim xs ≠ []) : (trim xs).getLast h ≠ 0 := by
  intro hl
  have h2 : trim xs = (trim xs).dropLast ++ [0] := by rw [← hl]; exact (List.dropLast_concat_getLast h).symm
  have h3 : xs.reverse.dropWhile (· == 0) = 0 :: ((trim xs).dropLast).reverse := by
    have : (trim xs).reverse = xs.reverse.dropWhile (· == 0) := by simp [trim]
    rw [← this, h2]; simp
  have h4 := List.head?_dropWhile_not (· == 0) xs.reverse
  rw [h3] at h4
  simp at h4

theorem trim_cons (x : Nat) (xs : List Nat) : trim (x :: xs) = if x = 0 ∧ trim xs = [] then [] else x :: trim xs := by
  simp only [trim, List.reverse_cons, List.dropWhile_append, List.reverse_eq_nil_iff]
  by_cases h : (xs.reverse.dropWhile (· == 0)) = []
  · rw [h]
    by_cases hx : x = 0 <;> simp [hx]
  · have h2 : (xs.reverse.dropWhile (· == 0)).isEmpty = false := by simpa [List.isEmpty_iff] using h
    rw [if_neg (by simp [h2]), if_neg (by simp [h])]
    simp
def limbs (n : Nat) : List Nat := if h : n = 0 then [] else n % 1000000000 :: limbs (n / 1000000000)
decreasing_by exact Nat.div_lt_self (Nat.pos_of_ne_zero h) (by decide)
theorem limbs_zero : limbs 0 = [] := by rw [limbs]; simp
theorem limbs_pos {n : Nat} (h : n ≠ 0) : limbs n = n % 1000000000 :: limbs (n / 1000000000) := by rw [limbs]; simp [h]
theorem lv_limbs (n : Nat) : lv (limbs n) = n := by
  induction n using Nat.strongRecOn with
  | _ n ih =>
    by_cases h : n = 0
    · subst h; rw [limbs_zero]; rfl
    · rw [limbs_pos h, lv, ih _ (Nat.div_lt_self (Nat.pos_of_ne_zero h) (by decide))]
      omega
theorem ok_limbs (n : Nat) : ok (limbs n) := by
  induction n using Nat.strongRecOn with
  | _ n ih =>
    by_cases h : n = 0
    · subst h; rw [limbs_zero]; exact ok_nil
    · rw [limbs_pos h]
      intro x hx
      rcases List.mem_cons.1 hx with hx | hx
      · rw [hx]; exact Nat.mod_lt _ (by decide)
      · exact ih _ (Nat.div_lt_self (Nat.pos_of_ne_zero h) (by decide)) x hx
theorem lv_zero_trim {xs : List Nat} (h : lv xs = 0) : trim xs = [] := by
  induction xs with
  | nil => rfl
  | cons x xs ih =>
    simp only [lv] at h
    rw [trim_cons, if_pos ⟨by omega, ih (by omega)⟩]
theorem limbs_lv {xs : List Nat} (h : ok xs) : limbs (lv xs) = trim xs := by
  induction xs with
  | nil => exact limbs_zero
  | cons x xs ih =>
    have hx := h x (by simp)
    have ih := ih fun y hy => h y (by simp [hy])
    by_cases h0 : lv (x :: xs) = 0
    · rw [h0, limbs_zero, lv_zero_trim h0]
    · rw [limbs_pos h0]
      have h1 : lv (x :: xs) % 1000000000 = x := by simp only [lv]; omega
      have h2 : lv (x :: xs) / 1000000000 = lv xs := by simp only [lv]; omega
      rw [h1, h2, ih, trim_cons, if_neg]
      rintro ⟨rfl, ht⟩
      apply h0
      have := lv_trim xs
      rw [ht] at this
      simp only [lv] at this ⊢
      omega
theorem trim_limbs (n : Nat) : trim (limbs n) = limbs n := by rw [← limbs_lv (ok_limbs n), lv_limbs]
end Go.Proofs.YtgehlcgjchfibaaGreatDoor.F

namespace Go.Proofs
open Go.Shelf
def Tryz.lays169_ren : Go.Shelf.Ren := ⟨fun | 169 => 104 | n => n, fun | 70 => 126 | 9 => 9 | 0 => 0 | 72 => 128 | 37 => 107 | 127 => 164 | 3 => 3 | 5 => 5 | n => n, fun | n => n⟩
theorem Tryz.lays169 : Go.Proofs.Lays.n169 Tryz.prog Tryz.lays169_ren := {
  mixed := by kernel_rfl
  f169 := Tryz.func104.trans (congrArg some (by kernel_rfl))
  t0 := Tryz.underlying0
  a0 := Tryz.isAgg0
  z0 := Tryz.sizeOf0
  v0 := Tryz.zeroValue0
  t3 := Tryz.underlying3
  a3 := Tryz.isAgg3
  z3 := Tryz.sizeOf3
  v3 := Tryz.zeroValue3
  t9 := Tryz.underlying9
  a9 := Tryz.isAgg9
  z9 := Tryz.sizeOf9
  v9 := Tryz.zeroValue9
  t37 := Tryz.underlying107
  a37 := Tryz.isAgg107
  z37 := Tryz.sizeOf107
  v37 := Tryz.zeroValue107
  t70 := Tryz.underlying126
  a70 := Tryz.isAgg126
  z70 := Tryz.sizeOf126
  v70 := Tryz.zeroValue126
  t72 := Tryz.underlying128
  a72 := Tryz.isAgg128
  z72 := Tryz.sizeOf128
  v72 := Tryz.zeroValue128
  t127 := Tryz.underlying164
  a127 := Tryz.isAgg164
  z127 := Tryz.sizeOf164
  v127 := Tryz.zeroValue164 }
theorem Tryz.Builder_Extra_169 : Builder.Extra Tryz.prog Tryz.lays169_ren := {
  sizeBuilder := by kernel_rfl
  liesBuilder := by kernel_rfl
  t5 := Tryz.underlying5
  a5 := Tryz.isAgg5
  z5 := Tryz.sizeOf5
  v5 := Tryz.zeroValue5
  infoByte := by kernel_rfl
  cellsByte := by kernel_rfl
  sizeByte := by kernel_rfl
  neB5 := by decide }
def Tryz.lays161_ren : Go.Shelf.Ren := ⟨fun | 161 => 93 | 231 => 122 | 227 => 123 | 233 => 124 | 235 => 125 | 228 => 141 | 197 => 142 | 151 => 143 | 260 => 148 | 152 => 149 | 137 => 151 | 119 => 152 | 224 => 153 | 225 => 154 | 217 => 155 | 266 => 156 | n => n, fun | 9 => 9 | 4 => 4 | 3 => 3 | 5 => 5 | 117 => 154 | 116 => 153 | 0 => 0 | 124 => 157 | 105 => 105 | 21 => 21 | 119 => 177 | 46 => 178 | 139 => 181 | 138 => 180 | n => n, fun | 3 => 2 | 4 => 3 | n => n⟩
theorem Tryz.lays161 : Go.Proofs.Lays.n161 Tryz.prog Tryz.lays161_ren := {
  mixed := by kernel_rfl
  f119 := Tryz.func152.trans (congrArg some (by kernel_rfl))
  f137 := Tryz.func151.trans (congrArg some (by kernel_rfl))
  f151 := Tryz.func143.trans (congrArg some (by kernel_rfl))
  f152 := Tryz.func149.trans (congrArg some (by kernel_rfl))
  f161 := Tryz.func93.trans (congrArg some (by kernel_rfl))
  f197 := Tryz.func142.trans (congrArg some (by kernel_rfl))
  f217 := Tryz.func155.trans (congrArg some (by kernel_rfl))
  f224 := Tryz.func153.trans (congrArg some (by kernel_rfl))
  f225 := Tryz.func154.trans (congrArg some (by kernel_rfl))
  f227 := Tryz.func123.trans (congrArg some (by kernel_rfl))
  f228 := Tryz.func141.trans (congrArg some (by kernel_rfl))
  f231 := Tryz.func122.trans (congrArg some (by kernel_rfl))
  f233 := Tryz.func124.trans (congrArg some (by kernel_rfl))
  f235 := Tryz.func125.trans (congrArg some (by kernel_rfl))
  f260 := Tryz.func148.trans (congrArg some (by kernel_rfl))
  f266 := Tryz.func156.trans (congrArg some (by kernel_rfl))
  t0 := Tryz.underlying0
  a0 := Tryz.isAgg0
  z0 := Tryz.sizeOf0
  v0 := Tryz.zeroValue0
  t3 := Tryz.underlying3
  a3 := Tryz.isAgg3
  z3 := Tryz.sizeOf3
  v3 := Tryz.zeroValue3
  t4 := Tryz.underlying4
  a4 := Tryz.isAgg4
  z4 := Tryz.sizeOf4
  v4 := Tryz.zeroValue4
  t5 := Tryz.underlying5
  a5 := Tryz.isAgg5
  z5 := Tryz.sizeOf5
  v5 := Tryz.zeroValue5
  t9 := Tryz.underlying9
  a9 := Tryz.isAgg9
  z9 := Tryz.sizeOf9
  v9 := Tryz.zeroValue9
  t21 := Tryz.underlying21
  a21 := Tryz.isAgg21
  z21 := Tryz.sizeOf21
  v21 := Tryz.zeroValue21
  t46 := Tryz.underlying178
  a46 := Tryz.isAgg178
  z46 := Tryz.sizeOf178
  v46 := Tryz.zeroValue178
  t105 := Tryz.underlying105
  a105 := Tryz.isAgg105
  z105 := Tryz.sizeOf105
  v105 := Tryz.zeroValue105
  t116 := Tryz.underlying153
  a116 := Tryz.isAgg153
  z116 := Tryz.sizeOf153
  t117 := Tryz.underlying154
  a117 := Tryz.isAgg154
  z117 := Tryz.sizeOf154
  v117 := Tryz.zeroValue154
  t119 := Tryz.underlying177
  a119 := Tryz.isAgg177
  z119 := Tryz.sizeOf177
  t124 := Tryz.underlying157
  a124 := Tryz.isAgg157
  z124 := Tryz.sizeOf157
  v124 := Tryz.zeroValue157
  t138 := Tryz.underlying180
  a138 := Tryz.isAgg180
  z138 := Tryz.sizeOf180
  v138 := Tryz.zeroValue180
  t139 := Tryz.underlying181
  a139 := Tryz.isAgg181
  z139 := Tryz.sizeOf181
  v139 := Tryz.zeroValue181
  g3 := by kernel_rfl
  g4 := by kernel_rfl }
open Go.RowKit in
/-- strings.TrimLeft: "TrimLeft returns a slice of the string s with all leading Unicode code points contained in cutset removed.": AT A cutset OF ONE ASCII BYTE. The world is as it was. (LAID: no walk: one application.) -/
theorem Tryz.strings_TrimLeft_one (s : ByteArray) (c : UInt8) (hc : c.toNat < 128) (w : World) :
    Calls Tryz.prog 93 #[.string s, .string ⟨#[c]⟩] w fun e w' => e = .returned (.string ⟨(Lib.trimLeftB s.data.toList c).toArray⟩) ∧ w' = w := Any.strings_TrimLeft_one Tryz.lays161 s c hc w
def Tryz.lays162_ren : Go.Shelf.Ren := ⟨fun | 162 => 94 | 232 => 126 | 227 => 123 | 234 => 127 | 236 => 128 | 228 => 141 | 271 => 144 | 151 => 143 | 120 => 150 | 197 => 142 | 152 => 149 | 260 => 148 | 137 => 151 | 119 => 152 | 224 => 153 | 225 => 154 | 217 => 155 | 266 => 156 | n => n, fun | 9 => 9 | 4 => 4 | 3 => 3 | 5 => 5 | 117 => 154 | 116 => 153 | 0 => 0 | 124 => 157 | 21 => 21 | 105 => 105 | 46 => 178 | 119 => 177 | 139 => 181 | 138 => 180 | n => n, fun | 3 => 2 | 4 => 3 | n => n⟩
theorem Tryz.lays162 : Go.Proofs.Lays.n162 Tryz.prog Tryz.lays162_ren := {
  mixed := by kernel_rfl
  f119 := Tryz.func152.trans (congrArg some (by kernel_rfl))
  f120 := Tryz.func150.trans (congrArg some (by kernel_rfl))
  f137 := Tryz.func151.trans (congrArg some (by kernel_rfl))
  f151 := Tryz.func143.trans (congrArg some (by kernel_rfl))
  f152 := Tryz.func149.trans (congrArg some (by kernel_rfl))
  f162 := Tryz.func94.trans (congrArg some (by kernel_rfl))
  f197 := Tryz.func142.trans (congrArg some (by kernel_rfl))
  f217 := Tryz.func155.trans (congrArg some (by kernel_rfl))
  f224 := Tryz.func153.trans (congrArg some (by kernel_rfl))
  f225 := Tryz.func154.trans (congrArg some (by kernel_rfl))
  f227 := Tryz.func123.trans (congrArg some (by kernel_rfl))
  f228 := Tryz.func141.trans (congrArg some (by kernel_rfl))
  f232 := Tryz.func126.trans (congrArg some (by kernel_rfl))
  f234 := Tryz.func127.trans (congrArg some (by kernel_rfl))
  f236 := Tryz.func128.trans (congrArg some (by kernel_rfl))
  f260 := Tryz.func148.trans (congrArg some (by kernel_rfl))
  f266 := Tryz.func156.trans (congrArg some (by kernel_rfl))
  f271 := Tryz.func144.trans (congrArg some (by kernel_rfl))
  t0 := Tryz.underlying0
  a0 := Tryz.isAgg0
  z0 := Tryz.sizeOf0
  v0 := Tryz.zeroValue0
  t3 := Tryz.underlying3
  a3 := Tryz.isAgg3
  z3 := Tryz.sizeOf3
  v3 := Tryz.zeroValue3
  t4 := Tryz.underlying4
  a4 := Tryz.isAgg4
  z4 := Tryz.sizeOf4
  v4 := Tryz.zeroValue4
  t5 := Tryz.underlying5
  a5 := Tryz.isAgg5
  z5 := Tryz.sizeOf5
  v5 := Tryz.zeroValue5
  t9 := Tryz.underlying9
  a9 := Tryz.isAgg9
  z9 := Tryz.sizeOf9
  v9 := Tryz.zeroValue9
  t21 := Tryz.underlying21
  a21 := Tryz.isAgg21
  z21 := Tryz.sizeOf21
  v21 := Tryz.zeroValue21
  t46 := Tryz.underlying178
  a46 := Tryz.isAgg178
  z46 := Tryz.sizeOf178
  v46 := Tryz.zeroValue178
  t105 := Tryz.underlying105
  a105 := Tryz.isAgg105
  z105 := Tryz.sizeOf105
  v105 := Tryz.zeroValue105
  t116 := Tryz.underlying153
  a116 := Tryz.isAgg153
  z116 := Tryz.sizeOf153
  t117 := Tryz.underlying154
  a117 := Tryz.isAgg154
  z117 := Tryz.sizeOf154
  v117 := Tryz.zeroValue154
  t119 := Tryz.underlying177
  a119 := Tryz.isAgg177
  z119 := Tryz.sizeOf177
  t124 := Tryz.underlying157
  a124 := Tryz.isAgg157
  z124 := Tryz.sizeOf157
  v124 := Tryz.zeroValue157
  t138 := Tryz.underlying180
  a138 := Tryz.isAgg180
  z138 := Tryz.sizeOf180
  v138 := Tryz.zeroValue180
  t139 := Tryz.underlying181
  a139 := Tryz.isAgg181
  z139 := Tryz.sizeOf181
  v139 := Tryz.zeroValue181
  g3 := by kernel_rfl
  g4 := by kernel_rfl }
open Go.RowKit in
/-- strings.TrimRight: "TrimRight returns a slice of the string s, with all trailing Unicode code points contained in cutset removed.": AT A cutset OF ONE ASCII BYTE. The world is as it was. (LAID: no walk: one application.) -/
theorem Tryz.strings_TrimRight_one (s : ByteArray) (c : UInt8) (hc : c.toNat < 128) (w : World) (hs : s.size ≤ 9223372036854775807) :
    Calls Tryz.prog 94 #[.string s, .string ⟨#[c]⟩] w fun e w' => e = .returned (.string ⟨(Lib.trimRightB s.data.toList c).toArray⟩) ∧ w' = w := Any.strings_TrimRight_one Tryz.lays162 s c hc w hs
open Go.RowKit in
/-- (*strings.Builder).String: "String returns the accumulated string.": WHATEVER THE BUILDER HOLDS; THE FORM '_k': OVER 'Lib.IsBuilderF' (a builder that 'String()' may have read), AND WITH THE FRAME THAT REACHES ABOVE THE BUILDER: 'Lib.OthersKept': every block that is not b and is no row of uint8's stands as it stood: the iterator of a range among them. (LAID: no walk: one application.) -/
theorem Tryz.Builder_String_any_k (B b : Nat) (l : List UInt8) (w : World) (h : Lib.IsBuilderF 128 5 B b (Lib.byteCells l) w) (hBw : B ≤ w.heap.size) :
    Calls Tryz.prog 104 #[.pointer (some ⟨b, 0, none⟩)] w fun e w' => e = .returned (.string ⟨l.toArray⟩) ∧ (Lib.IsBuilderF 128 5 B b (Lib.byteCells l) w' ∧ Below B w w' ∧ Lib.OthersKept 5 (some b) w w') := Any.Builder_String_any_k Tryz.lays169 Tryz.Builder_Extra_169 B b l w h hBw
def Tryz.laysSlE041_f137_ren : Go.Shelf.Ren := ⟨fun | 41 => 137 | n => n, fun | 22 => 84 | 23 => 94 | 4 => 4 | n => n, fun | n => n⟩
theorem Tryz.laysSlE041_f137 : Go.Proofs.SlLaysE0.n41 Tryz.prog Tryz.laysSlE041_f137_ren := {
  mixed := by kernel_rfl
  f41 := ⟨Tryz.f137.name, by decide, Tryz.func137.trans (congrArg some (by kernel_rfl))⟩
  t4 := Tryz.underlying4
  a4 := Tryz.isAgg4
  z4 := Tryz.sizeOf4
  v4 := Tryz.zeroValue4
  t22 := Tryz.underlying84
  a22 := Tryz.isAgg84
  z22 := Tryz.sizeOf84
  v22 := Tryz.zeroValue84 }
open Go.RowKit Go.Lib in
/-- slices.Clone: "Clone returns a copy of the slice. The elements are copied using assignment, so this is a shallow clone. The result may have additional unused capacity. The result preserves the nilness of s.": OF A SLICE THAT IS NOT nil IT RETURNS A SLICE THAT IS NOT nil, OF THE SAME CELLS, IN MEMORY OF THE CALL's OWN ('ownsRow': the how-to's 6f); below the heap's size at the call all is as it was. (LAID AT THE INSTANCE 'slices.Clone[[]uint32,uint32]': no walk: one application.) -/
theorem Tryz.slices_Clone (i0 : TypeInfo) (z : Value) (size bytes : Nat) (hi : Tryz.prog.info? 94 = some i0) (hz0 : i0.zero = some z) (hz1 : i0.size = size) (hz2 : i0.bytes = bytes) (hzs : z.cells.size = size) (hsz : 0 < size) (z23 : ∀ w, (Go.sizeOf 94).run Tryz.prog w = .ok size w) (b off n c : Nat) (news : List Value) (w : World) (hl : news.length = n * size) (hn : n ≤ maxLen) (hbig : n * bytes ≤ 140737488355328) (hc : ∀ j u, news[j]? = some u → w.cell? ⟨b, off + j, none⟩ = some u) (h1 : ∀ u ∈ news, u.oneCell' = true) :
    Calls Tryz.prog 137 #[.slice (some ⟨b, off, none⟩) n c] w fun e w' => ∃ v', e = .returned v' ∧ w'.ownsRow w.heap.size 94 size v' n news ∧ v' ≠ .slice none 0 0 ∧ Below w.heap.size w w' := AnyE.slices_Clone Tryz.laysSlE041_f137 i0 z size bytes hi hz0 hz1 hz2 hzs hsz z23 b off n c news w hl hn hbig hc h1
open Go.RowKit Go.Lib in
/-- The same at nil: nil comes back; the world is as it was; nothing is asked of the element's type. (LAID AT THE INSTANCE 'slices.Clone[[]uint32,uint32]': no walk: one application.) -/
theorem Tryz.slices_Clone_nil (n c : Nat) (w : World) :
    Calls Tryz.prog 137 #[.slice none n c] w fun e w' => e = .returned (.slice none 0 0) ∧ w' = w := AnyE.slices_Clone_nil Tryz.laysSlE041_f137 n c w
end Go.Proofs

namespace Go.Proofs.YtgehlcgjchfibaaGreatDoor.F
open Go Go.RowKit Go.Proofs

theorem info94 : (Tryz.prog.info? 94).map (fun i => (i.zero, i.size, i.bytes)) = some (some (.int .u32 0), 1, 4) := by kernel_rfl
theorem setRow_new (W : World) (z c : Array Value) (t : TypeId) : (W.alloc (.cells z t)).setRow W.heap.size c = W.alloc (.cells c t) := by
  have h : ((W.alloc (.cells z t)).setRow W.heap.size c).heap = (W.alloc (.cells c t)).heap := by
    apply Array.ext_getElem?
    intro i
    by_cases e : i = W.heap.size
    · subst e
      rw [setRow_heap _ _ z c t (0, 0) (heap_alloc_new _ _), heap_alloc_new]
    · rw [setRow_other _ _ _ _ e]
      by_cases hi : i < W.heap.size
      · rw [heap_alloc_old _ _ hi, heap_alloc_old _ _ hi]
      · rw [Array.getElem?_eq_none (by rw [World.size_alloc]; omega), Array.getElem?_eq_none (by rw [World.size_alloc]; omega)]
  have e : (W.alloc (.cells z t)).setRow W.heap.size c = { W.alloc (.cells z t) with heap := ((W.alloc (.cells z t)).setRow W.heap.size c).heap } := rfl
  rw [e, h]
  rfl
/-- copy into a new row, of just its length. -/
theorem run_copy_new (W : World) (A : Option Addr) (n cap k : Nat) (hk : k ≤ n) (cs : List Value) (hcs : cs.length = k) (h1 : ∀ v ∈ cs, v.oneCell' = true) (z : Array Value) (hz : z.size = k)
    (hsrc : 0 < k → ∃ ad, A = some ad ∧ ∀ j v, cs[j]? = some v → (W.alloc (.cells z 94)).cell? (ad.add j) = some v) :
    (Builtin.copy_ #[84, 84] 3 #[.slice (some ⟨W.heap.size, 0, none⟩) k k, .slice A n cap]).run Tryz.prog (W.alloc (.cells z 94)) = .ok (.int .i64 k) (W.alloc (.cells cs.toArray 94)) := by
  obtain ⟨i0, hi, hz0, hz1, hz2⟩ := info_parts info94
  have hsz : (Tryz.prog.info? 94).map (·.size) = some 1 := by rw [hi]; simp [hz1]
  by_cases h0 : k = 0
  · subst h0
    have : cs = [] := List.eq_nil_of_length_eq_zero hcs
    subst this
    have hz' : z = #[] := Array.eq_empty_of_size_eq_zero hz
    subst hz'
    rw [run_copy_none (P := Tryz.prog) _ 84 84 3 94 _ _ _ _ _ _ Tryz.underlying84 hsz (by simp)]
    rfl
  · obtain ⟨ad, rfl, hs⟩ := hsrc (by omega)
    have hg : (W.alloc (.cells z 94)).heap[W.heap.size]? = some (.cells z 94 (0, 0)) := heap_alloc_new _ _
    rw [run_copy_row (P := Tryz.prog) _ 84 84 3 94 W.heap.size 0 k k ad n cap z 94 cs Tryz.underlying84 hsz hg (by rw [hcs]; simp [Nat.min_def]; omega) hs (by omega) h1]
    have : cs.toArray = (List.take 0 z.toList ++ cs ++ List.drop (0 + cs.length) z.toList).toArray := by
      rw [List.take_zero, List.nil_append, List.drop_of_length_le (by simp; omega), List.append_nil]
    rw [← this, hcs]
    rw [setRow_new]
    rfl
theorem walk92 (A : Option Addr) (n cap k : Nat) (w : World) (hk : k ≤ n) (hn : n < 1099511627776) (cs : List Value) (hcs : cs.length = k) (h1 : ∀ v ∈ cs, v.oneCell' = true)
    (hsrc : 0 < k → ∃ ad, A = some ad ∧ ∀ w', Below w.heap.size w w' → ∀ j v, cs[j]? = some v → w'.cell? (ad.add j) = some v)
    (h98 : Calls Tryz.prog 98 #[.slice A n cap] w fun e w' => e = .returned (.int .i64 k) ∧ Below w.heap.size w w') :
    Calls Tryz.prog 92 #[.slice A n cap] w fun e w' => ∃ g, e = .returned (.slice (some ⟨g, 0, none⟩) k k) ∧ w.heap.size ≤ g ∧ w'.heap[g]? = some (.cells cs.toArray 94 (0, 0)) ∧ Below w.heap.size w w' := by
  obtain ⟨i0, hi, hz0, hz1, hz2⟩ := info_parts info94
  have hmk : ∀ u : World, (Instr.makeSlice 84 (.int .i64 (k : Int)) (.int .i64 (k : Int))).run Tryz.prog u = .ok (.slice (some ⟨u.heap.size, 0, none⟩) k k) (u.alloc (.cells (madeCells #[.int .u32 0] k) 94)) := fun u => by
    have h := run_make (P := Tryz.prog) u 84 94 i0 (.int .u32 0) Tryz.underlying84 hi hz0 .i64 .i64 (k : Int) (k : Int) (by omega) (Int.le_refl _) (by rw [hz2]; omega) (by omega)
    simpa [hz1, Value.cells] using h
  clear hz0 hz1 hz2 hi
  have Hc := Lib.hid (fun (W : World) (hb : Below w.heap.size w W) => run_copy_new W A n cap k hk cs hcs h1 (madeCells #[.int .u32 0] k) (by simp [madeCells]) (fun h => by
    obtain ⟨ad, ha, hs⟩ := hsrc h
    exact ⟨ad, ha, hs _ (hb.alloc hb.size _)⟩))
  clear hcs hsrc h1
  go_enter Tryz.func92, Tryz.ntmps92
  go_wp2_with (go_at_call 98; refine h98.mono ?_; rintro e w1 ⟨rfl, hb⟩; have hc1 := Hc.out w1 hb)
  go_ret
  exact ⟨w1.heap.size, rfl, hb.size, heap_alloc_new _ _, hb.alloc hb.size _⟩

abbrev uV (n : Nat) : Value := .int .u32 (n : Int)
theorem take_lt_of_trim (xs : List Nat) : trim xs = xs.take (trim xs).length := by
  unfold trim
  have h := List.takeWhile_append_dropWhile (p := (· == 0)) (l := xs.reverse)
  have h2 : xs = (xs.reverse.dropWhile (· == 0)).reverse ++ (xs.reverse.takeWhile (· == 0)).reverse := by
    rw [← List.reverse_append, h, List.reverse_reverse]
  generalize (xs.reverse.dropWhile (· == 0)).reverse = a at *
  generalize (xs.reverse.takeWhile (· == 0)).reverse = b at *
  rw [h2]; simp
theorem relL_inv1 {C : Nat → Nat → Prop} {w : World} {x : AV} {us : Array Value} (h : RelL C w [x] us.toList) : ∃ u, us = #[u] ∧ Rel C w x u := by
  obtain ⟨u, t, h1, h2, h3⟩ := h.cons_inv
  have h4 := h3.nil_inv
  subst h4
  exact ⟨u, by cases us; simp_all, h2⟩
theorem u32_cells {C : Nat → Nat → Prop} {w : World} {n : Nat} {u : Value} (h : Rel C w (u32 n) u) : u = .int .u32 n := by cases h; rfl
theorem con92 (xs : List Nat) (hl : xs.length < 1099511627776) : Fn 92 [L xs] (L (trim xs)) := by
  intro w C us hC hG hr
  obtain ⟨v, rfl, hv⟩ := relL_inv1 hr
  have hle := trim_le xs
  have h98 := con98 xs hl w C #[v] hC hG hr
  obtain ⟨A, cap, he, hA, hne⟩ := (TRel.of_rel (μ := fun _ => v) hv).sl_inv
  subst he
  rw [List.length_map] at h98 ⊢
  have hcs : ((trim xs).map uV).length = (trim xs).length := List.length_map _
  have hw := walk92 A xs.length cap (trim xs).length w hle hl ((trim xs).map uV) hcs
    (by intro v hv; obtain ⟨n, _, rfl⟩ := List.mem_map.1 hv; rfl)
    (by
      intro h0
      obtain ⟨b, off, us, rfl, hc, hx, hs, hq⟩ := hne (fun e => by have hx0 : xs = [] := by { simpa using e }; subst hx0; exact absurd h0 (by decide))
      refine ⟨_, rfl, fun w' hb j v hj => ?_⟩
      have hjl : j < (trim xs).length := by have := (List.getElem?_eq_some_iff.1 hj).1; rwa [hcs] at this
      have hjx : j < xs.length := by omega
      have hval : v = .int .u32 (xs.getD j 0 : Nat) := by
        rw [List.getElem?_map] at hj
        rw [take_lt_of_trim xs, List.getElem?_take, if_pos hjl, List.getElem?_eq_getElem hjx] at hj
        simp only [Option.map_some, Option.some.injEq] at hj
        rw [← hj, List.getD_eq_getElem?_getD, List.getElem?_eq_getElem hjx]; rfl
      have hxj : (xs.map u32)[j]? = some (u32 (xs.getD j 0)) := by
        rw [List.getElem?_map, List.getElem?_eq_getElem hjx, List.getD_eq_getElem?_getD, List.getElem?_eq_getElem hjx]; rfl
      have hu := u32_cells (hx j _ hxj)
      have hcell := hq j 0 (us j) (by rw [List.length_map]; exact hjx) (by rw [hu]; rfl)
      rw [hval, ← hu, Addr.add_mid]
      rw [cell_same (hb.block b (hC _ _ hcell.1))]
      have := hcell.2
      rwa [Nat.mul_one, Nat.add_zero] at this)
    (h98.mono fun e w' ⟨u, C', h1, h2, h3, h4, h5⟩ => ⟨by rw [h1]; cases h5; rfl, h2⟩)
  refine hw.mono ?_
  rintro e w' ⟨g, rfl, hg, hh, hb⟩
  refine ⟨_, fun b o => C b o ∨ b = g, rfl, hb, fun b o h => .inl h, fun b o h => ?_, ?_⟩
  · rcases h with h | h
    · exact ⟨Nat.lt_of_lt_of_le (hC b o h) hb.size, .inl h⟩
    · subst h
      exact ⟨(Array.getElem?_eq_some_iff.1 hh).1, .inr hg⟩
  · have hlen : ((trim xs).map u32).length = (trim xs).length := List.length_map _
    have := Rel.sl (C := fun b o => C b o ∨ b = g) (w := w') 1 ((trim xs).map u32) g 0 (trim xs).length (fun j => Value.int .u32 ((trim xs).getD j 0 : Nat)) (by omega)
      (fun j x hx => by
        rw [List.getElem?_map] at hx
        cases hj : (trim xs)[j]? with
        | none => rw [hj] at hx; cases hx
        | some n =>
          rw [hj] at hx
          injection hx with hx
          subst hx
          rw [List.getD_eq_getElem?_getD, hj]
          exact .int _ _)
      (fun j hj => ⟨rfl, fun c hc => by simp [Value.cells] at hc; subst hc; rfl⟩)
      (fun i j c hi hj => by
        refine ⟨.inr rfl, ?_⟩
        have hj0 : j = 0 := by have := (Array.getElem?_eq_some_iff.1 hj).1; simp [Value.cells] at this; omega
        subst hj0
        have hc : c = .int .u32 ((trim xs).getD i 0 : Nat) := by simpa [Value.cells] using hj.symm
        subst hc
        rw [hlen] at hi
        have hd : (trim xs).getD i 0 = (trim xs)[i] := by rw [List.getD_eq_getElem?_getD, List.getElem?_eq_getElem hi]; rfl
        rw [hd]
        simp [World.cell?, hh, hi])
    rw [hlen] at this
    exact this
theorem con137 (xs : List Nat) (hl : xs.length < 1099511627776) : ConO Tryz.prog gs 137 [L xs] 94 1 (xs.map u32) := by
  intro w C us hC hG hr
  obtain ⟨v, rfl, hv⟩ := relL_inv1 hr
  obtain ⟨A, cap, he, hA, hne⟩ := (TRel.of_rel (μ := fun _ => v) hv).sl_inv
  subst he
  rw [List.length_map]
  have hlen : (xs.map u32).length = xs.length := List.length_map _
  have hemp : xs = [] → ObRel C w (fun k => w.heap.size ≤ k) (.row 94 1 (xs.map u32)) (.slice none 0 0) := by
    intro e; subst e
    exact ⟨[], RelL.nil _ _, by simp, ⟨by simp [cellsOf], .inl ⟨rfl, rfl⟩⟩, fun g hg => by simp [mblk] at hg⟩
  cases A with
  | none =>
    have hx : xs = [] := by
      refine Classical.byContradiction fun hx => ?_
      obtain ⟨b, off, us, e, _⟩ := hne (by simpa using hx)
      cases e
    refine (Tryz.slices_Clone_nil xs.length cap w).mono ?_
    rintro e w' ⟨rfl, rfl⟩
    exact ⟨_, C, rfl, Below.refl _ _, fun _ _ h => h, fun b o h => ⟨hC b o h, .inl h⟩, hemp hx⟩
  | some a =>
    have ha := hA a rfl
    obtain ⟨b, off, sp⟩ := a
    simp only at ha
    subst ha
    obtain ⟨i0, hi, hz0, hz1, hz2⟩ := info_parts info94
    have hcells : ∀ j u, (xs.map uV)[j]? = some u → w.cell? ⟨b, off + j, none⟩ = some u := by
      intro j v hj
      have hjl : j < xs.length := by have := (List.getElem?_eq_some_iff.1 hj).1; rwa [List.length_map] at this
      obtain ⟨b', off', us, e, hc, hx, hs, hq⟩ := hne (by intro e; have := congrArg List.length e; simp at this; subst this; simp at hjl)
      injection e with e
      injection e with e1 e2
      subst e1 e2
      have hval : v = .int .u32 (xs.getD j 0 : Nat) := by
        rw [List.getElem?_map, List.getElem?_eq_getElem hjl] at hj
        simp only [Option.map_some, Option.some.injEq] at hj
        rw [← hj, List.getD_eq_getElem?_getD, List.getElem?_eq_getElem hjl]; rfl
      have hxj : (xs.map u32)[j]? = some (u32 (xs.getD j 0)) := by
        rw [List.getElem?_map, List.getElem?_eq_getElem hjl, List.getD_eq_getElem?_getD, List.getElem?_eq_getElem hjl]; rfl
      have hu := u32_cells (hx j _ hxj)
      have hcell := hq j 0 (us j) (by rw [List.length_map]; exact hjl) (by rw [hu]; rfl)
      rw [hval, ← hu]
      have := hcell.2
      rwa [Nat.mul_one, Nat.add_zero] at this
    refine (Tryz.slices_Clone i0 (.int .u32 0) 1 4 hi hz0 hz1 hz2 rfl (by decide) Tryz.sizeOf94 b off xs.length cap (xs.map uV) w (by simp) (by unfold maxLen; omega) (by omega) hcells (by intro v hv; obtain ⟨n, _, rfl⟩ := List.mem_map.1 hv; rfl)).mono ?_
    rintro e w' ⟨v', rfl, hown, _, hb⟩
    refine ⟨v', C, rfl, hb, fun _ _ h => h, fun b o h => ⟨Nat.lt_of_lt_of_le (hC b o h) hb.size, .inl h⟩, ?_⟩
    have hcs : cellsOf (xs.map uV) = xs.map uV := cellsOf_one fun u hu => by obtain ⟨n, _, rfl⟩ := List.mem_map.1 hu; rfl
    refine ⟨xs.map uV, ⟨by simp, fun i x u hx hu => ?_⟩, fun u hu => ?_, ?_, fun g hg => ?_⟩
    · rw [List.getElem?_map] at hx hu
      cases hj : xs[i]? with
      | none => rw [hj] at hx; cases hx
      | some n =>
        rw [hj] at hx hu
        injection hx with hx
        injection hu with hu
        subst hx hu
        exact .int _ _
    · obtain ⟨n, _, rfl⟩ := List.mem_map.1 hu
      exact ⟨rfl, fun c hc => by simp [Value.cells] at hc; subst hc; rfl⟩
    · rw [hcs, hlen]
      obtain ⟨q1, q2⟩ := hown
      refine ⟨q1, ?_⟩
      rcases q2 with q2 | ⟨g, cap, cur, q3, q4, q5⟩
      · exact .inl q2
      · exact .inr ⟨g, cap, cur, q3, Nat.zero_le _, q5⟩
    · rcases hown.2 with ⟨q, _⟩ | ⟨g', cap, cur, q3, q4, q5⟩
      · rw [q] at hg; simp [mblk] at hg
      · rw [q3] at hg
        have : g' = g := by simpa [mblk] using hg
        subst this
        exact ⟨q4, fun o hc => by have := hC _ _ hc; omega⟩

theorem tdivB (v : Nat) : (v : Int).tdiv 1000000000 = ((v / 1000000000 : Nat) : Int) := rfl
theorem tmodB (v : Nat) : (v : Int).tmod 1000000000 = ((v % 1000000000 : Nat) : Int) := rfl
theorem getD_over {ys : List Nat} {i : Nat} (h : ¬ i < ys.length) : ys.getD i 0 = 0 := by simp [List.getD_eq_getElem?_getD, List.getElem?_eq_none (Nat.le_of_not_lt h)]
theorem lv_take_any {xs : List Nat} (n : Nat) : lv (xs.take (n + 1)) = lv (xs.take n) + 1000000000 ^ n * xs.getD n 0 := by
  by_cases h : n < xs.length
  · exact lv_take_succ h
  · rw [getD_over h, List.take_of_length_le (by omega), List.take_of_length_le (by omega)]; simp

def I75 (xs ys : List Nat) (n : Nat) (s : St) : Prop := ∃ (i c : Nat) (out : List Nat), n = xs.length - i ∧ i ≤ xs.length ∧ s = ⟨[(1, L ys), (5, .own 20), (6, u32 c), (21, L xs), (22, i64 xs.length), (23, i64 i)], [(20, .row 94 1 (out.map u32))]⟩ ∧ out.length = i ∧ ok out ∧ c ≤ 1 ∧
    lv out + 1000000000 ^ i * c = lv (xs.take i) + lv (ys.take i)

theorem core75 {xs ys : List Nat} (h : ys.length ≤ xs.length) (hl : xs.length < 1000000000) (hx : ok xs) (hy : ok ys) :
    VC e0 ic75_6 (retQ [(4, none)] (L (limbs (lv xs + lv ys)))) ⟨[(0, L xs), (1, L ys)], []⟩ := by
  have h1 : IntKind.i64.wrap ((xs.length : Int) + 1) = (xs.length : Int) + 1 := by rw [wrap64] <;> omega
  simp only [ic75_6, wkA, Nat.reduceEqDiff, Nat.reduceAdd, Nat.reduceSub, Nat.reduceLeDiff, Nat.reduceLT, Nat.reduceBEq, Nat.reduceBNe, reduceCtorEq, L, lenL, h1]
  refine ⟨by omega, I75 xs ys, xs.length, _, Gh.refl _, ⟨0, 0, [], rfl, Nat.zero_le _, rfl, rfl, ok_nil, by omega, by simp [lv]⟩, ?_⟩
  rintro n s ⟨i, c, out, rfl, hi, rfl, ho, hok, hc, hv⟩
  by_cases hlt : i < xs.length
  · have h0 : decide ((i : Int) < xs.length) = true := decide_eq_true (by omega)
    have e1 : IntKind.i64.wrap ((i : Int) + 1) = ((i + 1 : Nat) : Int) := by rw [wrap64] <;> omega
    have hg := ok_get hx i
    have hg2 := ok_get hy i
    have e2 : IntKind.u32.wrap ((xs.getD i 0 : Int) + c) = ((xs.getD i 0 + c : Nat) : Int) := by rw [wrap32] <;> omega
    have key : ∀ (v : Nat) (Q : Exit → St → Prop), v = xs.getD i 0 + c + ys.getD i 0 → VC e0 ic75_1 (blockQ 1 (thenQ (VC e0 ic75_2 (thenQ (backQ (I75 xs ys) (xs.length - i)) Q)) (thenQ (backQ (I75 xs ys) (xs.length - i)) Q)))
        ⟨[(1, .sl 1 (ys.map u32)), (5, .own 20), (9, u32 v), (21, .sl 1 (xs.map u32)), (22, i64 xs.length), (23, i64 i)], [(20, .row 94 1 (out.map u32))]⟩ := by
      intro v Q hv'
      have e4 : IntKind.u32.wrap ((v / 1000000000 : Nat) : Int) = ((v / 1000000000 : Nat) : Int) := by rw [wrap32] <;> omega
      simp only [ic75_1, ic75_2, wkA, Nat.reduceEqDiff, Nat.reduceAdd, Nat.reduceSub, Nat.reduceLeDiff, Nat.reduceLT, Nat.reduceBEq, Nat.reduceBNe, reduceCtorEq, L, lenL, e1, List.length_map, tdivB, tmodB, e4]
      refine ⟨by omega, by omega, ⟨by omega, by omega⟩, _, xs.length - (i + 1), Gh.refl _, by omega, i + 1, v / 1000000000, out ++ [v % 1000000000], rfl, by omega, by simp [L], by simp [ho], ok_append.2 ⟨hok, ok_one.2 (Nat.mod_lt _ (by decide))⟩, by omega, ?_⟩
      rw [lv_append, lv_one, lv_take_any, lv_take_any, ho, Nat.pow_succ]
      have : v = 1000000000 * (v / 1000000000) + v % 1000000000 := (Nat.div_add_mod _ _).symm
      have h5 : 1000000000 ^ i * v = 1000000000 ^ i * xs.getD i 0 + 1000000000 ^ i * c + 1000000000 ^ i * ys.getD i 0 := by rw [hv', Nat.mul_add, Nat.mul_add]
      have h6 : 1000000000 ^ i * v = 1000000000 ^ i * 1000000000 * (v / 1000000000) + 1000000000 ^ i * (v % 1000000000) := by
        conv => lhs; rw [this]
        rw [Nat.mul_add, Nat.mul_assoc]
      omega
    by_cases hy2 : i < ys.length
    · have h2 : decide ((i : Int) < ys.length) = true := decide_eq_true (by omega)
      have e3 : IntKind.u32.wrap (((xs.getD i 0 + c : Nat) : Int) + ys.getD i 0) = ((xs.getD i 0 + c + ys.getD i 0 : Nat) : Int) := by rw [wrap32] <;> omega
      simp only [ic75_4, ic75_3, wkA, Nat.reduceEqDiff, Nat.reduceAdd, Nat.reduceSub, Nat.reduceLeDiff, Nat.reduceLT, Nat.reduceBEq, Nat.reduceBNe, reduceCtorEq, L, lenL, h0, h2, Int.toNat_natCast, getL hlt, getL hy2, e2, e3]
      exact ⟨by omega, by omega, key _ _ rfl⟩
    · have h2 : decide ((i : Int) < ys.length) = false := decide_eq_false (by omega)
      simp only [ic75_4, ic75_3, wkA, Nat.reduceEqDiff, Nat.reduceAdd, Nat.reduceSub, Nat.reduceLeDiff, Nat.reduceLT, Nat.reduceBEq, Nat.reduceBNe, reduceCtorEq, L, lenL, h0, h2, Int.toNat_natCast, getL hlt, e2]
      exact ⟨by omega, key _ _ (by rw [getD_over hy2]; rfl)⟩
  · have h0 : decide ((i : Int) < xs.length) = false := decide_eq_false (by omega)
    simp only [ic75_4, ic75_3, ic75_5, wkA, Nat.reduceEqDiff, Nat.reduceAdd, Nat.reduceSub, Nat.reduceLeDiff, Nat.reduceLT, Nat.reduceBEq, Nat.reduceBNe, reduceCtorEq, L, lenL, h0, List.length_map]
    have hi2 : i = xs.length := by omega
    subst hi2
    refine ⟨⟨by omega, by omega⟩, callF (r := L (trim (out ++ [c]))) ?_ rfl ?_⟩
    · have := con92 (out ++ [c]) (by simp [ho]; omega)
      simp only [L, List.map_append, List.map_cons, List.map_nil] at this ⊢
      exact this
    · simp only [L, wkA, Nat.reduceEqDiff, Nat.reduceAdd, Nat.reduceSub, Nat.reduceLeDiff, Nat.reduceLT, Nat.reduceBEq, Nat.reduceBNe, reduceCtorEq]
      rw [← limbs_lv (ok_append.2 ⟨hok, ok_one.2 (by omega)⟩), lv_append, lv_one, ho, hv]
      simp [List.take_of_length_le h]

theorem con75 {xs ys : List Nat} (hl : xs.length < 1000000000) (hl2 : ys.length < 1000000000) (hx : ok xs) (hy : ok ys) : Fn 75 [L xs, L ys] (L (limbs (lv xs + lv ys))) := by
  refine e75 (by simp) ?_
  simp only [ic75, wkA, Nat.reduceEqDiff, Nat.reduceAdd, Nat.reduceSub, Nat.reduceLeDiff, Nat.reduceLT, Nat.reduceBEq, Nat.reduceBNe, reduceCtorEq, L, lenL, cnd_if]
  split
  · rename_i h
    have h : xs.length < ys.length := by simpa using h
    rw [Nat.add_comm]
    exact core75 (by omega) hl2 hy hx
  · rename_i h
    have h : ¬ xs.length < ys.length := by simpa using h
    exact core75 (by omega) hl hx hy

theorem neN {a b : Nat} (h : ((a : Int) != b) = true) : a ≠ b := by rintro rfl; simp at h
theorem eqN {a b : Nat} (h : ¬ ((a : Int) != b) = true) : a = b := by
  by_cases e : a = b
  · exact e
  · exact absurd (by simp; omega) h
/-! ### Order -/
theorem lv_ge {xs : List Nat} (h : trim xs ≠ []) : 1000000000 ^ ((trim xs).length - 1) ≤ lv (trim xs) := by
  have h1 := trim_last xs h
  have h2 : trim xs = (trim xs).dropLast ++ [(trim xs).getLast h] := (List.dropLast_concat_getLast h).symm
  have h3 : lv (trim xs) = lv (trim xs).dropLast + 1000000000 ^ ((trim xs).length - 1) * (trim xs).getLast h := by
    conv => lhs; rw [h2]
    rw [lv_append, lv_one, List.length_dropLast]
  rw [h3]
  have : 1000000000 ^ ((trim xs).length - 1) * 1 ≤ 1000000000 ^ ((trim xs).length - 1) * (trim xs).getLast h := Nat.mul_le_mul_left _ (by omega)
  omega
theorem lv_lt_of_len {xs ys : List Nat} (hx : ok xs) (h : (trim xs).length < (trim ys).length) : lv (trim xs) < lv (trim ys) := by
  have h1 := lv_lt (ok_trim hx)
  have h2 := lv_ge (xs := ys) (by intro e; rw [e] at h; simp at h)
  have h3 : 1000000000 ^ (trim xs).length ≤ 1000000000 ^ ((trim ys).length - 1) := Nat.pow_le_pow_right (by decide) (by omega)
  omega
theorem cmpI_len {xs ys : List Nat} (hx : ok xs) (hy : ok ys) (h : (trim xs).length ≠ (trim ys).length) : cmpI (trim xs).length (trim ys).length = cmpI (lv xs) (lv ys) := by
  rw [← lv_trim xs, ← lv_trim ys]
  unfold cmpI
  rcases Nat.lt_or_gt_of_ne h with h1 | h1
  · have := lv_lt_of_len (ys := ys) hx h1
    rw [if_pos (by omega), if_pos (by omega)]
  · have := lv_lt_of_len (ys := xs) hy h1
    rw [if_neg (by omega), if_pos (by omega), if_neg (by omega), if_pos (by omega)]
theorem lv_at {xs : List Nat} {i : Nat} (h : i < xs.length) : lv xs = lv (xs.take i) + 1000000000 ^ i * (xs.getD i 0 + 1000000000 * lv (xs.drop (i + 1))) := by
  rw [lv_split xs i (by omega)]
  congr 2
  rw [List.drop_eq_getElem_cons h]
  simp [lv, List.getD_eq_getElem?_getD, h]
theorem cmpI_at {xs ys : List Nat} (hx : ok xs) (hy : ok ys) {i : Nat} (h1 : i < xs.length) (h2 : i < ys.length) (hd : xs.drop (i + 1) = ys.drop (i + 1)) (hne : xs.getD i 0 ≠ ys.getD i 0) : cmpI (xs.getD i 0) (ys.getD i 0) = cmpI (lv xs) (lv ys) := by
  have e1 := lv_at h1
  have e2 := lv_at h2
  rw [hd] at e1
  have t1 : lv (xs.take i) < 1000000000 ^ i := by have := lv_lt (ok_sub hx fun x hx => List.mem_of_mem_take hx : ok (xs.take i)); rwa [List.length_take, Nat.min_eq_left (by omega)] at this
  have t2 : lv (ys.take i) < 1000000000 ^ i := by have := lv_lt (ok_sub hy fun x hx => List.mem_of_mem_take hx : ok (ys.take i)); rwa [List.length_take, Nat.min_eq_left (by omega)] at this
  generalize lv (ys.drop (i + 1)) = R at e1 e2
  unfold cmpI
  rcases Nat.lt_or_gt_of_ne hne with h | h
  · have := Nat.mul_le_mul_left (1000000000 ^ i) (show xs.getD i 0 + 1000000000 * R + 1 ≤ ys.getD i 0 + 1000000000 * R by omega)
    rw [Nat.mul_add _ _ 1] at this
    rw [if_pos (by omega), if_pos (by omega)]
  · have := Nat.mul_le_mul_left (1000000000 ^ i) (show ys.getD i 0 + 1000000000 * R + 1 ≤ xs.getD i 0 + 1000000000 * R by omega)
    rw [Nat.mul_add _ _ 1] at this
    rw [if_neg (by omega), if_pos (by omega), if_neg (by omega), if_pos (by omega)]

def I74 (xs ys : List Nat) (n : Nat) (s : St) : Prop := n ≤ xs.length ∧ s = ⟨[(0, L xs), (1, L ys), (5, i64 ((n : Int) - 1))], []⟩ ∧ xs.drop n = ys.drop n

theorem con74 {xs ys : List Nat} (hl : xs.length < 1000000000) (hl2 : ys.length < 1000000000) (hx : ok xs) (hy : ok ys) : Fn 74 [L xs, L ys] (i64 (cmpI (lv xs) (lv ys))) := by
  refine e74 (by simp) ?_
  have hlx := trim_le xs
  have hly := trim_le ys
  simp only [ic74, wkA, Nat.reduceEqDiff, Nat.reduceAdd, Nat.reduceSub, Nat.reduceLeDiff, Nat.reduceLT, Nat.reduceBEq, Nat.reduceBNe, reduceCtorEq]
  refine callFD (con98 xs (by omega)) rfl ?_
  simp only [wkA, Nat.reduceEqDiff, Nat.reduceAdd, Nat.reduceSub, Nat.reduceLeDiff, Nat.reduceLT, Nat.reduceBEq, Nat.reduceBNe, reduceCtorEq, L, lenL]
  refine ⟨⟨by omega, by omega⟩, ?_⟩
  refine callFD (con98 ys (by omega)) rfl ?_
  simp only [wkA, Nat.reduceEqDiff, Nat.reduceAdd, Nat.reduceSub, Nat.reduceLeDiff, Nat.reduceLT, Nat.reduceBEq, Nat.reduceBNe, reduceCtorEq, L, lenL, mapTake, mapDrop, List.drop_zero, Int.toNat_natCast, Int.toNat_zero, Nat.sub_zero, trim_take]
  refine ⟨⟨by omega, by omega⟩, ?_⟩
  rw [cnd_if]
  split
  · rename_i h
    have h : (trim xs).length ≠ (trim ys).length := neN h
    simp only [wkA, Nat.reduceEqDiff, Nat.reduceAdd, Nat.reduceSub, Nat.reduceLeDiff, Nat.reduceLT, Nat.reduceBEq, Nat.reduceBNe, reduceCtorEq, lenL]
    refine callF (con99 _ _) rfl ?_
    simp only [wkA, Nat.reduceEqDiff, Nat.reduceAdd, Nat.reduceSub, Nat.reduceLeDiff, Nat.reduceLT, Nat.reduceBEq, Nat.reduceBNe, reduceCtorEq, cmpI_len hx hy h]
  · rename_i h
    have h : (trim xs).length = (trim ys).length := eqN h
    have e1 : IntKind.i64.wrap (((trim xs).length : Int) - 1) = ((trim xs).length : Int) - 1 := by rw [wrap64] <;> omega
    simp only [ic74_5, wkA, Nat.reduceEqDiff, Nat.reduceAdd, Nat.reduceSub, Nat.reduceLeDiff, Nat.reduceLT, Nat.reduceBEq, Nat.reduceBNe, reduceCtorEq, L, lenL, e1]
    refine ⟨I74 (trim xs) (trim ys), (trim xs).length, _, Gh.refl _, ⟨Nat.le_refl _, rfl, by rw [List.drop_length, h, List.drop_length]⟩, ?_⟩
    rintro n s ⟨hn, rfl, hd⟩
    rcases n with _ | n
    · have h0 : decide (((0 : Nat) : Int) - 1 ≥ 0) = false := decide_eq_false (by omega)
      simp only [ic74_3, ic74_4, wkA, Nat.reduceEqDiff, Nat.reduceAdd, Nat.reduceSub, Nat.reduceLeDiff, Nat.reduceLT, Nat.reduceBEq, Nat.reduceBNe, reduceCtorEq, h0]
      simp only [List.drop_zero] at hd
      rw [← lv_trim xs, ← lv_trim ys, hd]
      simp [cmpI]
    · have h0 : decide (((n + 1 : Nat) : Int) - 1 ≥ 0) = true := decide_eq_true (by omega)
      have e2 : ((n + 1 : Nat) : Int) - 1 = n := by omega
      have e3 : IntKind.i64.wrap ((n : Int) - 1) = (n : Int) - 1 := by rw [wrap64] <;> omega
      have h0b : decide ((n : Int) ≥ 0) = true := decide_eq_true (by omega)
      simp only [ic74_3, ic74_2, ic74_1, wkA, Nat.reduceEqDiff, Nat.reduceAdd, Nat.reduceSub, Nat.reduceLeDiff, Nat.reduceLT, Nat.reduceBEq, Nat.reduceBNe, reduceCtorEq, h0, h0b, L, lenL, e2, e3, Int.toNat_natCast, getL (show n < (trim xs).length by omega), getL (show n < (trim ys).length by omega)]
      refine ⟨⟨by omega, by omega⟩, ⟨by omega, by omega⟩, ?_⟩
      rw [cnd_if]
      split
      · rename_i hne
        have hne : (trim xs).getD n 0 ≠ (trim ys).getD n 0 := neN hne
        simp only [ic74_1, wkA, Nat.reduceEqDiff, Nat.reduceAdd, Nat.reduceSub, Nat.reduceLeDiff, Nat.reduceLT, Nat.reduceBEq, Nat.reduceBNe, reduceCtorEq, lenL, e3, Int.toNat_natCast, getL (show n < (trim xs).length by omega), getL (show n < (trim ys).length by omega)]
        refine ⟨⟨by omega, by omega⟩, ⟨by omega, by omega⟩, callFD (con100 _ _) rfl ?_⟩
        simp only [wkA, Nat.reduceEqDiff, Nat.reduceAdd, Nat.reduceSub, Nat.reduceLeDiff, Nat.reduceLT, Nat.reduceBEq, Nat.reduceBNe, reduceCtorEq, cmpI_at (ok_trim hx) (ok_trim hy) (show n < (trim xs).length by omega) (by omega) hd hne, lv_trim]
      · rename_i hne
        have hne : (trim xs).getD n 0 = (trim ys).getD n 0 := eqN hne
        simp only [ic74_1, wkA, Nat.reduceEqDiff, Nat.reduceAdd, Nat.reduceSub, Nat.reduceLeDiff, Nat.reduceLT, Nat.reduceBEq, Nat.reduceBNe, reduceCtorEq, e3]
        refine ⟨_, n, Gh.refl _, by omega, by omega, rfl, ?_⟩
        rw [List.drop_eq_getElem_cons (show n < (trim xs).length by omega), List.drop_eq_getElem_cons (show n < (trim ys).length by omega), hd]
        congr 1
        simpa [List.getD_eq_getElem?_getD, show n < (trim xs).length by omega, show n < (trim ys).length by omega] using hne

/-! ### Differences -/
def I121 (xs ys : List Nat) (n : Nat) (s : St) : Prop := ∃ (i c : Nat) (out : List Nat), n = xs.length - i ∧ i ≤ xs.length ∧ s = ⟨[(1, L ys), (6, .own 21), (7, u32 c), (22, L xs), (23, i64 xs.length), (24, i64 i)], [(21, .row 94 1 (out.map u32))]⟩ ∧ out.length = i ∧ ok out ∧ c ≤ 1 ∧
    lv (xs.take i) + 1000000000 ^ i * c = lv out + lv (ys.take i)
theorem con121_no {xs ys : List Nat} (hl : xs.length < 1000000000) (hl2 : ys.length < 1000000000) (hx : ok xs) (hy : ok ys) (h : lv xs < lv ys) : Fn 121 [L xs, L ys] (.tup [.nil, .bool false]) := by
  refine e121 (by simp) ?_
  simp only [ic121, wkA, Nat.reduceEqDiff, Nat.reduceAdd, Nat.reduceSub, Nat.reduceLeDiff, Nat.reduceLT, Nat.reduceBEq, Nat.reduceBNe, reduceCtorEq, L, lenL, mapTake, mapDrop, List.drop_zero, Int.toNat_natCast, Int.toNat_zero, Nat.sub_zero, List.length_map]
  refine callF (con74 hl hl2 hx hy) rfl ?_
  have h0 : decide (cmpI (lv xs) (lv ys) < 0) = true := decide_eq_true (by unfold cmpI; split <;> omega)
  simp only [wkA, Nat.reduceEqDiff, Nat.reduceAdd, Nat.reduceSub, Nat.reduceLeDiff, Nat.reduceLT, Nat.reduceBEq, Nat.reduceBNe, reduceCtorEq, h0]
theorem con121 {xs ys : List Nat} (hl : xs.length < 1000000000) (hl2 : ys.length < 1000000000) (hx : ok xs) (hy : ok ys) (h : lv ys ≤ lv xs) : Fn 121 [L xs, L ys] (.tup [L (limbs (lv xs - lv ys)), .bool true]) := by
  refine e121 (by simp) ?_
  have hlt := trim_le ys
  simp only [ic121, wkA, Nat.reduceEqDiff, Nat.reduceAdd, Nat.reduceSub, Nat.reduceLeDiff, Nat.reduceLT, Nat.reduceBEq, Nat.reduceBNe, reduceCtorEq, L, lenL, mapTake, mapDrop, List.drop_zero, Int.toNat_natCast, Int.toNat_zero, Nat.sub_zero, List.length_map]
  refine callF (con74 hl hl2 hx hy) rfl ?_
  have h0 : decide (cmpI (lv xs) (lv ys) < 0) = false := decide_eq_false (by unfold cmpI; split <;> (try split) <;> omega)
  simp only [wkA, Nat.reduceEqDiff, Nat.reduceAdd, Nat.reduceSub, Nat.reduceLeDiff, Nat.reduceLT, Nat.reduceBEq, Nat.reduceBNe, reduceCtorEq, h0, ic121_7]
  refine callF (con98 ys (by omega)) rfl ?_
  simp only [wkA, Nat.reduceEqDiff, Nat.reduceAdd, Nat.reduceSub, Nat.reduceLeDiff, Nat.reduceLT, Nat.reduceBEq, Nat.reduceBNe, reduceCtorEq, L, lenL, mapTake, mapDrop, List.drop_zero, Int.toNat_natCast, Int.toNat_zero, Nat.sub_zero, trim_take]
  refine ⟨⟨by omega, by omega⟩, ⟨by omega, by omega⟩, ?_⟩
  have hty := ok_trim hy
  rw [← lv_trim ys] at h ⊢
  have hys : trim ys = trim ys := rfl
  generalize hyd : trim ys = ys' at *
  refine ⟨I121 xs ys', xs.length, _, Gh.refl _, ⟨0, 0, [], rfl, Nat.zero_le _, rfl, rfl, ok_nil, by omega, by simp [lv]⟩, ?_⟩
  rintro n s ⟨i, c, out, rfl, hi, rfl, ho, hok, hc, hv⟩
  by_cases hlt : i < xs.length
  · have h0 : decide ((i : Int) < xs.length) = true := decide_eq_true (by omega)
    have e1 : IntKind.i64.wrap ((i : Int) + 1) = ((i + 1 : Nat) : Int) := by rw [wrap64] <;> omega
    have hg := ok_get hx i
    have hg2 := ok_get hty i
    have key : ∀ (v : Nat) (Q : Exit → St → Prop), v = c + ys'.getD i 0 → VC e0 ic121_2 (blockQ 1 (thenQ (VC e0 ic121_3 (thenQ (backQ (I121 xs ys') (xs.length - i)) Q)) (thenQ (backQ (I121 xs ys') (xs.length - i)) Q)))
        ⟨[(1, .sl 1 (ys'.map u32)), (6, .own 21), (9, u32 (xs.getD i 0)), (10, u32 v), (22, .sl 1 (xs.map u32)), (23, i64 xs.length), (24, i64 i)], [(21, .row 94 1 (out.map u32))]⟩ := by
      intro v Q hv'
      have e4 : IntKind.u32.wrap ((xs.getD i 0 : Int) + 1000000000) = ((xs.getD i 0 + 1000000000 : Nat) : Int) := by rw [wrap32] <;> omega
      have hp := Nat.pow_succ (n := 1000000000) (m := i)
      have t1 := lv_take_any (xs := xs) i
      have t2 := lv_take_any (xs := ys') i
      have hvm : 1000000000 ^ i * v = 1000000000 ^ i * c + 1000000000 ^ i * ys'.getD i 0 := by rw [hv', Nat.mul_add]
      by_cases hvx : xs.getD i 0 < v
      · have h3 : decide ((xs.getD i 0 : Int) < v) = true := decide_eq_true (by omega)
        have e5 : IntKind.u32.wrap (((xs.getD i 0 + 1000000000 : Nat) : Int) - v) = ((xs.getD i 0 + 1000000000 - v : Nat) : Int) := by rw [wrap32] <;> omega
        simp only [ic121_2, ic121_1, ic121_3, wkA, Nat.reduceEqDiff, Nat.reduceAdd, Nat.reduceSub, Nat.reduceLeDiff, Nat.reduceLT, Nat.reduceBEq, Nat.reduceBNe, reduceCtorEq, L, lenL, mapTake, mapDrop, List.drop_zero, Int.toNat_natCast, Int.toNat_zero, Nat.sub_zero, List.length_map, e1, e4, e5, h3]
        refine ⟨⟨by omega, by omega⟩, _, xs.length - (i + 1), Gh.refl _, by omega, i + 1, 1, out ++ [xs.getD i 0 + 1000000000 - v], rfl, by omega, by simp [L], by simp [ho], ok_append.2 ⟨hok, ok_one.2 (by omega)⟩, by omega, ?_⟩
        have h6 : 1000000000 ^ i * (xs.getD i 0 + 1000000000 - v) + 1000000000 ^ i * v = 1000000000 ^ i * xs.getD i 0 + 1000000000 ^ i * 1000000000 := by
          rw [← Nat.mul_add, ← Nat.mul_add]; congr 1; omega
        rw [lv_append, lv_one, ho, t1, t2, Nat.mul_one]
        omega
      · have h3 : decide ((xs.getD i 0 : Int) < v) = false := decide_eq_false (by omega)
        have e5 : IntKind.u32.wrap ((xs.getD i 0 : Int) - v) = ((xs.getD i 0 - v : Nat) : Int) := by rw [wrap32] <;> omega
        simp only [ic121_2, ic121_1, ic121_3, wkA, Nat.reduceEqDiff, Nat.reduceAdd, Nat.reduceSub, Nat.reduceLeDiff, Nat.reduceLT, Nat.reduceBEq, Nat.reduceBNe, reduceCtorEq, L, lenL, mapTake, mapDrop, List.drop_zero, Int.toNat_natCast, Int.toNat_zero, Nat.sub_zero, List.length_map, e1, e5, h3]
        refine ⟨⟨by omega, by omega⟩, _, xs.length - (i + 1), Gh.refl _, by omega, i + 1, 0, out ++ [xs.getD i 0 - v], rfl, by omega, by simp [L], by simp [ho], ok_append.2 ⟨hok, ok_one.2 (by omega)⟩, by omega, ?_⟩
        have h6 : 1000000000 ^ i * (xs.getD i 0 - v) + 1000000000 ^ i * v = 1000000000 ^ i * xs.getD i 0 := by
          rw [← Nat.mul_add]; congr 1; omega
        rw [lv_append, lv_one, ho, t1, t2]
        omega
    by_cases hy2 : i < ys'.length
    · have h2 : decide ((i : Int) < ys'.length) = true := decide_eq_true (by omega)
      have e3 : IntKind.u32.wrap ((c : Int) + ys'.getD i 0) = ((c + ys'.getD i 0 : Nat) : Int) := by rw [wrap32] <;> omega
      simp only [ic121_5, ic121_4, wkA, Nat.reduceEqDiff, Nat.reduceAdd, Nat.reduceSub, Nat.reduceLeDiff, Nat.reduceLT, Nat.reduceBEq, Nat.reduceBNe, reduceCtorEq, L, lenL, h0, h2, Int.toNat_natCast, getL hlt, getL hy2, e3]
      exact ⟨by omega, by omega, key _ _ rfl⟩
    · have h2 : decide ((i : Int) < ys'.length) = false := decide_eq_false (by omega)
      simp only [ic121_5, ic121_4, wkA, Nat.reduceEqDiff, Nat.reduceAdd, Nat.reduceSub, Nat.reduceLeDiff, Nat.reduceLT, Nat.reduceBEq, Nat.reduceBNe, reduceCtorEq, L, lenL, h0, h2, Int.toNat_natCast, getL hlt]
      exact ⟨by omega, key _ _ (by rw [getD_over hy2]; rfl)⟩
  · have h0 : decide ((i : Int) < xs.length) = false := decide_eq_false (by omega)
    simp only [ic121_5, ic121_4, ic121_6, wkA, Nat.reduceEqDiff, Nat.reduceAdd, Nat.reduceSub, Nat.reduceLeDiff, Nat.reduceLT, Nat.reduceBEq, Nat.reduceBNe, reduceCtorEq, L, lenL, h0, List.length_map]
    have hi2 : i = xs.length := by omega
    subst hi2
    refine callF (r := L (trim out)) ?_ rfl ?_
    · have := con92 out (by omega)
      simp only [L] at this ⊢
      exact this
    · simp only [L, wkA, Nat.reduceEqDiff, Nat.reduceAdd, Nat.reduceSub, Nat.reduceLeDiff, Nat.reduceLT, Nat.reduceBEq, Nat.reduceBNe, reduceCtorEq]
      have h7 := lv_lt hok
      rw [ho] at h7
      have h8 : ys'.length ≤ xs.length := by
        refine Classical.not_not.1 fun hn => ?_
        have := lv_lt_of_len (xs := xs) (ys := ys) hx (by have := trim_le xs; rw [hyd]; omega)
        rw [lv_trim, hyd] at this
        omega
      rw [List.take_length, List.take_of_length_le h8] at hv
      have hc0 : c = 0 := by
        rcases Nat.eq_zero_or_pos c with h9 | h9
        · exact h9
        · have : c = 1 := by omega
          subst this; omega
      subst hc0
      have : lv xs - lv ys' = lv out := by omega
      rw [this, limbs_lv hok]

theorem mapSet (xs : List Nat) (n y : Nat) : (xs.map u32).set n (.int .u32 y) = (xs.set n y).map u32 := by rw [List.map_set]
theorem lv_set : ∀ {xs : List Nat} {k : Nat} (y : Nat), k < xs.length → lv (xs.set k y) + 1000000000 ^ k * xs.getD k 0 = lv xs + 1000000000 ^ k * y
  | [], k, y, h => by simp at h
  | x :: xs, 0, y, h => by simp [lv]; omega
  | x :: xs, k + 1, y, h => by
    have := lv_set (xs := xs) (k := k) y (by simpa using h)
    simp only [List.set_cons_succ, lv, List.getD_cons_succ, Nat.pow_succ]
    have e1 : 1000000000 ^ k * 1000000000 * xs.getD k 0 = 1000000000 * (1000000000 ^ k * xs.getD k 0) := by rw [Nat.mul_comm (1000000000 ^ k), Nat.mul_assoc]
    have e2 : 1000000000 ^ k * 1000000000 * y = 1000000000 * (1000000000 ^ k * y) := by rw [Nat.mul_comm (1000000000 ^ k), Nat.mul_assoc]
    rw [e1, e2]
    omega
theorem ok_set {xs : List Nat} {k y : Nat} (h : ok xs) (hy : y < 1000000000) : ok (xs.set k y) := fun x hx => by
  rcases List.mem_or_eq_of_mem_set hx with hx | hx
  · exact h x hx
  · rw [hx]; exact hy
/-- A number in n limbs. -/
def padL : Nat → Nat → List Nat
  | 0, _ => []
  | n + 1, v => v % 1000000000 :: padL n (v / 1000000000)
theorem padL_lv {xs : List Nat} (h : ok xs) : padL xs.length (lv xs) = xs := by
  induction xs with
  | nil => rfl
  | cons x xs ih =>
    have hx := h x (by simp)
    have ih := ih fun y hy => h y (by simp [hy])
    simp only [List.length_cons, padL, lv]
    rw [show (x + 1000000000 * lv xs) % 1000000000 = x by omega, show (x + 1000000000 * lv xs) / 1000000000 = lv xs by omega, ih]
theorem padL_len (n v : Nat) : (padL n v).length = n := by
  induction n generalizing v with
  | zero => rfl
  | succ n ih => simp [padL, ih]
theorem padL_ok (n v : Nat) : ok (padL n v) := by
  induction n generalizing v with
  | zero => exact ok_nil
  | succ n ih =>
    intro x hx
    simp only [padL, List.mem_cons] at hx
    rcases hx with hx | hx
    · rw [hx]; exact Nat.mod_lt _ (by decide)
    · exact ih _ x hx
theorem lv_padL {n v : Nat} (h : v < 1000000000 ^ n) : lv (padL n v) = v := by
  induction n generalizing v with
  | zero => simp at h; subst h; rfl
  | succ n ih =>
    rw [Nat.pow_succ] at h
    simp only [padL, lv]
    rw [ih (Nat.div_lt_of_lt_mul (by rw [Nat.mul_comm]; exact h))]
    omega

def I105 (xs ys : List Nat) (by_ k : Nat) (n : Nat) (s : St) : Prop := ∃ (i c : Nat) (zs : List Nat), n = ys.length - i ∧ i ≤ ys.length ∧ s = ⟨[(0, .own pinned), (1, L ys), (2, u32 by_), (3, i64 k), (8, .int .u64 c), (14, L ys), (15, i64 ys.length), (16, i64 i)], [(pinned, .row 94 1 (zs.map u32))]⟩ ∧ zs.length = xs.length ∧ ok zs ∧ c < 1000000000 ∧
    lv zs + 1000000000 ^ (k + i) * c = lv xs + 1000000000 ^ k * (by_ * lv (ys.take i))
def J105 (xs : List Nat) (v : Nat) (n : Nat) (s : St) : Prop := ∃ (k c : Nat) (zs : List Nat), n = xs.length + 1 - k ∧ s = ⟨[(0, .own pinned), (8, .int .u64 c), (12, i64 k)], [(pinned, .row 94 1 (zs.map u32))]⟩ ∧ k ≤ xs.length ∧ zs.length = xs.length ∧ ok zs ∧ c < 1000000000 ∧ lv zs + 1000000000 ^ k * c = v

theorem con105 {xs ys : List Nat} {by_ k : Nat} (hl : xs.length < 1000000000) (hx : ok xs) (hy : ok ys) (hb : by_ < 1000000000) (hk : k + ys.length ≤ xs.length) (hv : lv xs + 1000000000 ^ k * (by_ * lv ys) < 1000000000 ^ xs.length) :
    ConM Tryz.prog gs 105 94 1 (xs.map u32) [L ys, u32 by_, i64 k] ((padL xs.length (lv xs + 1000000000 ^ k * (by_ * lv ys))).map u32) := by
  refine e105 (by simp) ?_
  generalize hV : lv xs + 1000000000 ^ k * (by_ * lv ys) = V at *
  simp only [ic105, wkA, Nat.reduceEqDiff, Nat.reduceAdd, Nat.reduceSub, Nat.reduceLeDiff, Nat.reduceLT, Nat.reduceBEq, Nat.reduceBNe, reduceCtorEq, L, lenL, mapTake, mapDrop, List.drop_zero, Int.toNat_natCast, Int.toNat_zero, Nat.sub_zero, List.length_map]
  refine ⟨I105 xs ys by_ k, ys.length, _, Gh.refl _, ⟨0, 0, xs, rfl, Nat.zero_le _, rfl, rfl, hx, by omega, by simp [lv]⟩, ?_⟩
  rintro n s ⟨i, c, zs, rfl, hi, rfl, hzl, hz, hc, hzv⟩
  by_cases hlt : i < ys.length
  · have h0 : decide ((i : Int) < ys.length) = true := decide_eq_true (by omega)
    have e1 : IntKind.i64.wrap ((i : Int) + 1) = ((i + 1 : Nat) : Int) := by rw [wrap64] <;> omega
    have e2 : IntKind.i64.wrap ((k : Int) + i) = ((k + i : Nat) : Int) := by rw [wrap64] <;> omega
    have hg := ok_get hy i
    have hgz := ok_get hz (k + i)
    have e3 : IntKind.u64.wrap ((zs.getD (k + i) 0 : Nat) : Int) = ((zs.getD (k + i) 0 : Nat) : Int) := by rw [wrapU64] <;> omega
    have e4 : IntKind.u64.wrap ((ys.getD i 0 : Nat) : Int) = ((ys.getD i 0 : Nat) : Int) := by rw [wrapU64] <;> omega
    have e5 : IntKind.u64.wrap ((by_ : Nat) : Int) = ((by_ : Nat) : Int) := by rw [wrapU64] <;> omega
    have hm : ys.getD i 0 * by_ ≤ 999999999 * 999999999 := Nat.mul_le_mul (by omega) (by omega)
    have e6 : IntKind.u64.wrap (((ys.getD i 0 : Nat) : Int) * by_) = ((ys.getD i 0 * by_ : Nat) : Int) := by rw [wrapU64] <;> omega
    have e7 : IntKind.u64.wrap (((zs.getD (k + i) 0 : Nat) : Int) + ((ys.getD i 0 * by_ : Nat) : Int)) = ((zs.getD (k + i) 0 + ys.getD i 0 * by_ : Nat) : Int) := by rw [wrapU64] <;> omega
    have e8 : IntKind.u64.wrap (((zs.getD (k + i) 0 + ys.getD i 0 * by_ : Nat) : Int) + c) = ((zs.getD (k + i) 0 + ys.getD i 0 * by_ + c : Nat) : Int) := by rw [wrapU64] <;> omega
    simp only [ic105_2, ic105_1, wkA, Nat.reduceEqDiff, Nat.reduceAdd, Nat.reduceSub, Nat.reduceLeDiff, Nat.reduceLT, Nat.reduceBEq, Nat.reduceBNe, reduceCtorEq, L, lenL, mapTake, mapDrop, List.drop_zero, Int.toNat_natCast, Int.toNat_zero, Nat.sub_zero, List.length_map, h0, e1, e2, e3, e4, e5, e6, e7, e8, getL hlt, getL (show k + i < zs.length by omega), tdivB, tmodB]
    generalize hw : zs.getD (k + i) 0 + ys.getD i 0 * by_ + c = w
    have e9 : IntKind.u32.wrap ((w % 1000000000 : Nat) : Int) = ((w % 1000000000 : Nat) : Int) := by rw [wrap32] <;> omega
    have e10 : IntKind.u64.wrap ((w / 1000000000 : Nat) : Int) = ((w / 1000000000 : Nat) : Int) := by rw [wrapU64] <;> omega
    simp only [e9, e10, mapSet]
    refine ⟨⟨by omega, by omega⟩, ⟨by omega, by omega⟩, by omega, by omega, ⟨by omega, by omega⟩, by omega, by omega, _, ys.length - (i + 1), Gh.refl _, by omega, i + 1, w / 1000000000, zs.set (k + i) (w % 1000000000), rfl, by omega, rfl, by simpa using hzl, ok_set hz (Nat.mod_lt _ (by decide)), by omega, ?_⟩
    have q1 := lv_set (xs := zs) (k := k + i) (w % 1000000000) (by omega)
    have q2 : 1000000000 ^ (k + i) * w = 1000000000 ^ (k + i) * zs.getD (k + i) 0 + 1000000000 ^ (k + i) * (ys.getD i 0 * by_) + 1000000000 ^ (k + i) * c := by rw [← hw, Nat.mul_add, Nat.mul_add]
    have q3 : 1000000000 ^ (k + i) * w = 1000000000 ^ (k + i) * 1000000000 * (w / 1000000000) + 1000000000 ^ (k + i) * (w % 1000000000) := by
      conv => lhs; rw [← Nat.div_add_mod w 1000000000]
      rw [Nat.mul_add, Nat.mul_assoc]
    have q4 : 1000000000 ^ k * (by_ * lv (ys.take (i + 1))) = 1000000000 ^ k * (by_ * lv (ys.take i)) + 1000000000 ^ (k + i) * (ys.getD i 0 * by_) := by
      rw [lv_take_any, Nat.mul_add, Nat.mul_add, Nat.pow_add, Nat.mul_comm (ys.getD i 0) by_]
      congr 1
      rw [Nat.mul_assoc, ← Nat.mul_assoc by_, Nat.mul_comm by_ (1000000000 ^ i), Nat.mul_assoc]
    rw [q4, ← Nat.add_assoc, Nat.pow_succ]
    omega
  · have h0 : decide ((i : Int) < ys.length) = false := decide_eq_false (by omega)
    have e1 : IntKind.i64.wrap ((k : Int) + ys.length) = ((k + ys.length : Nat) : Int) := by rw [wrap64] <;> omega
    simp only [ic105_2, ic105_1, ic105_5, wkA, Nat.reduceEqDiff, Nat.reduceAdd, Nat.reduceSub, Nat.reduceLeDiff, Nat.reduceLT, Nat.reduceBEq, Nat.reduceBNe, reduceCtorEq, L, lenL, mapTake, mapDrop, List.drop_zero, Int.toNat_natCast, Int.toNat_zero, Nat.sub_zero, List.length_map, h0, e1]
    have hie : i = ys.length := by omega
    subst hie
    rw [List.take_length, hV] at hzv
    refine ⟨J105 xs V, xs.length + 1 - (k + ys.length), _, Gh.refl _, ⟨k + ys.length, c, zs, rfl, rfl, hk, hzl, hz, hc, hzv⟩, ?_⟩
    clear hzv hzl hz hc h0 e1 hV
    clear zs c
    rintro n s ⟨m, c, zs, rfl, rfl, hm, hzl, hz, hc, hzv⟩
    rcases Nat.eq_zero_or_pos c with h | h
    · subst h
      have h0 : decide (((0 : Nat) : Int) > 0) = false := decide_eq_false (by omega)
      simp only [ic105_4, wkA, Nat.reduceEqDiff, Nat.reduceAdd, Nat.reduceSub, Nat.reduceLeDiff, Nat.reduceLT, Nat.reduceBEq, Nat.reduceBNe, reduceCtorEq, L, lenL, mapTake, mapDrop, List.drop_zero, Int.toNat_natCast, Int.toNat_zero, Nat.sub_zero, List.length_map, h0]
      rw [Nat.mul_zero, Nat.add_zero] at hzv
      rw [← hzv, ← hzl, padL_lv hz]
    · have hmn : m < xs.length := by
        refine Nat.lt_of_not_le fun hle => ?_
        have : m = xs.length := by omega
        subst this
        have := Nat.mul_le_mul_left (1000000000 ^ xs.length) h
        omega
      have h0 : decide ((c : Int) > 0) = true := decide_eq_true (by omega)
      have e1 : IntKind.i64.wrap ((m : Int) + 1) = ((m + 1 : Nat) : Int) := by rw [wrap64] <;> omega
      have hgz := ok_get hz m
      have e3 : IntKind.u64.wrap ((zs.getD m 0 : Nat) : Int) = ((zs.getD m 0 : Nat) : Int) := by rw [wrapU64] <;> omega
      have e4 : IntKind.u64.wrap (((zs.getD m 0 : Nat) : Int) + c) = ((zs.getD m 0 + c : Nat) : Int) := by rw [wrapU64] <;> omega
      simp only [ic105_4, ic105_3, wkA, Nat.reduceEqDiff, Nat.reduceAdd, Nat.reduceSub, Nat.reduceLeDiff, Nat.reduceLT, Nat.reduceBEq, Nat.reduceBNe, reduceCtorEq, L, lenL, mapTake, mapDrop, List.drop_zero, Int.toNat_natCast, Int.toNat_zero, Nat.sub_zero, List.length_map, h0, e1, e3, e4, getL (show m < zs.length by omega), tdivB, tmodB]
      generalize hw : zs.getD m 0 + c = w
      have e9 : IntKind.u32.wrap ((w % 1000000000 : Nat) : Int) = ((w % 1000000000 : Nat) : Int) := by rw [wrap32] <;> omega
      have e10 : IntKind.u64.wrap ((w / 1000000000 : Nat) : Int) = ((w / 1000000000 : Nat) : Int) := by rw [wrapU64] <;> omega
      simp only [e9, e10, mapSet]
      refine ⟨⟨by omega, by omega⟩, by omega, by omega, ⟨by omega, by omega⟩, by omega, by omega, _, xs.length + 1 - (m + 1), Gh.refl _, by omega, m + 1, w / 1000000000, zs.set m (w % 1000000000), rfl, rfl, by omega, by simpa using hzl, ok_set hz (Nat.mod_lt _ (by decide)), by omega, ?_⟩
      have q1 := lv_set (xs := zs) (k := m) (w % 1000000000) (by omega)
      have q2 : 1000000000 ^ m * w = 1000000000 ^ m * zs.getD m 0 + 1000000000 ^ m * c := by rw [← hw, Nat.mul_add]
      have q3 : 1000000000 ^ m * w = 1000000000 ^ m * 1000000000 * (w / 1000000000) + 1000000000 ^ m * (w % 1000000000) := by
        conv => lhs; rw [← Nat.div_add_mod w 1000000000]
        rw [Nat.mul_add, Nat.mul_assoc]
      rw [Nat.pow_succ]
      omega

theorem callMF {f : FuncId} {i E sz : Nat} {xs args : List AV} {d : Option Nat} {K : St → Prop} {s : St} {xs' : List AV} (hc : ConM Tryz.prog gs f E sz xs args xs') (hk : K ((s.upd i (.row E sz xs')).putD d (.tup []))) : callM e0 f i E sz xs args d K s := ⟨xs', hc, hk⟩

theorem repL (n : Nat) : List.replicate n (AV.int .u32 0) = (List.replicate n 0).map u32 := by simp
theorem ok_rep (n : Nat) : ok (List.replicate n 0) := fun x hx => by rw [(List.mem_replicate.1 hx).2]; decide

theorem con96 {ys : List Nat} {by_ more : Nat} (hl : ys.length < 1000000) (hy : ok ys) (hb : by_ < 1000000000) (hm : more < 1000000000) : Fn 96 [L ys, u32 by_, u32 more] (L (limbs (lv ys * by_ + more))) := by
  refine e96 (by simp) ?_
  have e1 : IntKind.i64.wrap ((ys.length : Int) + 2) = ((ys.length + 2 : Nat) : Int) := by rw [wrap64] <;> omega
  simp only [ic96, wkA, Nat.reduceEqDiff, Nat.reduceAdd, Nat.reduceSub, Nat.reduceLeDiff, Nat.reduceLT, Nat.reduceBEq, Nat.reduceBNe, reduceCtorEq, L, lenL, mapTake, mapDrop, List.drop_zero, Int.toNat_natCast, Int.toNat_zero, Nat.sub_zero, List.length_map, e1]
  refine ⟨⟨by omega, by omega, by omega, by omega⟩, ?_⟩
  simp only [repL, wkA, Nat.reduceEqDiff, Nat.reduceAdd, Nat.reduceSub, Nat.reduceLeDiff, Nat.reduceLT, Nat.reduceBEq, Nat.reduceBNe, reduceCtorEq, L, lenL, mapTake, mapDrop, List.drop_zero, Int.toNat_natCast, Int.toNat_zero, Nat.sub_zero, List.length_map, List.length_replicate, mapSet]
  have hlv : lv ((List.replicate (ys.length + 2) 0).set 0 more) = more := by
    simp [List.replicate_succ, lv, lv_zeros]
  have hcon := con105 (xs := (List.replicate (ys.length + 2) 0).set 0 more) (ys := ys) (by_ := by_) (k := 0) (by simp; omega) (ok_set (ok_rep _) hm) hy hb (by simp) (by
    rw [hlv]
    have h1 := lv_lt hy
    have h2 : by_ * lv ys ≤ 999999999 * (1000000000 ^ ys.length - 1) := Nat.mul_le_mul (by omega) (by omega)
    simp only [List.length_set, List.length_replicate, Nat.pow_add, Nat.pow_zero, Nat.one_mul]
    have h3 : 0 < 1000000000 ^ ys.length := Nat.pow_pos (by decide)
    omega)
  rw [hlv] at hcon
  simp only [List.length_set, List.length_replicate, Nat.pow_zero, Nat.one_mul] at hcon
  refine ⟨by omega, by omega, callMF hcon ?_⟩
  simp only [wkA, Nat.reduceEqDiff, Nat.reduceAdd, Nat.reduceSub, Nat.reduceLeDiff, Nat.reduceLT, Nat.reduceBEq, Nat.reduceBNe, reduceCtorEq, L, lenL, mapTake, mapDrop, List.drop_zero, Int.toNat_natCast, Int.toNat_zero, Nat.sub_zero, List.length_map]
  refine callF (r := L (trim (padL (ys.length + 2) (more + by_ * lv ys)))) ?_ rfl ?_
  · exact con92 _ (by rw [padL_len]; omega)
  · simp only [wkA, Nat.reduceEqDiff, Nat.reduceAdd, Nat.reduceSub, Nat.reduceLeDiff, Nat.reduceLT, Nat.reduceBEq, Nat.reduceBNe, reduceCtorEq, L, lenL, mapTake, mapDrop, List.drop_zero, Int.toNat_natCast, Int.toNat_zero, Nat.sub_zero, List.length_map]
    rw [← limbs_lv (padL_ok _ _), lv_padL, Nat.add_comm, Nat.mul_comm]
    have h1 := lv_lt hy
    have h2 : by_ * lv ys ≤ 999999999 * (1000000000 ^ ys.length - 1) := Nat.mul_le_mul (by omega) (by omega)
    have h3 : 0 < 1000000000 ^ ys.length := Nat.pow_pos (by decide)
    rw [Nat.pow_add]
    omega
end Go.Proofs.YtgehlcgjchfibaaGreatDoor.F
