/-
  What the functions that the laws call compute, for every input that the statements allow (part 3): for the claims up to a bulk of 1048576.
-/
import Derived.Test.YtgehlcgjchfibaaGreatDoorZ02
import Derived.Test.YtgehlcgjchfibaaGreatDoorCards
import Derived.Test.YtgehlcgjchfibaaGreatDoorTie
import Derived.WalkKit
import Derived.ProofKit
import Derived.OpenShut
import Derived.Deep.DeepHandedRow
import Derived.Lib.LaidTab
import Derived.Lib.SmallJoins
import Derived.LaidMore
import Derived.LaidHandle
import Derived.Lib.DecodeN
import Derived.Lib.OthersKept
import Derived.Laws.RangeString
import Derived.Shelf.Strings.Trim
import Derived.Shelf.Strings.BuilderK
import Derived.Ground.Names2Prog
import Derived.Ground.SlgnProg
import Derived.Shelf.SlicesE.Clone
import Derived.Test.YtgehlcgjchfibaaGreatDoorProg
set_option maxRecDepth 100000
set_option linter.unusedVariables false
set_option linter.unusedSimpArgs false
set_option linter.defProp false
namespace Go.Proofs.YtgehlcgjchfibaaGreatDoor.F
open Go Go.ChangeShapes Go.WideShapes Go.ChangeAt Go.RowKit Go.Joins Go.Proofs
abbrev laid4 : List (String × DataW Unit) := [("figurehead/mode.ways", Rows.laid_figurehead_mode_ways), ("unicode/utf8.acceptRanges", Rows.laid_unicode_utf8_acceptRanges), ("figurehead/ten.powers", Rows.laid_figurehead_ten_powers), ("unicode/utf8.first", Rows.laid_unicode_utf8_first)]
abbrev laid3 : List (String × DataW Unit) := [("unicode/utf8.acceptRanges", Rows.laid_unicode_utf8_acceptRanges), ("figurehead/ten.powers", Rows.laid_figurehead_ten_powers), ("unicode/utf8.first", Rows.laid_unicode_utf8_first)]
theorem own : ownKnob Tryz.prog.godebug = none := by kernel_rfl
theorem gPow : Tryz.prog.globalNamed "figurehead/ten.powers" = some 0 := by kernel_rfl
theorem gWays : Tryz.prog.globalNamed "figurehead/mode.ways" = some 1 := by kernel_rfl
theorem laid_parts {W : World} (h : laidMetH Tryz.prog laid4 W) : laidMet Tryz.prog laid3 W ∧ funcsAt Tryz.prog W "figurehead/mode.ways" (match (Rows.laid_figurehead_mode_ways : DataW Unit) with | .iface _ d => d | d => d) :=
  ⟨((show laidMetH Tryz.prog laid4 W = (laidMet Tryz.prog laid3 W ∧ handlesMet Tryz.prog [("figurehead/mode.ways", Rows.laid_figurehead_mode_ways)] W) by kernel_rfl).mp h).1, h.funcs (n := "figurehead/mode.ways") (.head _)⟩
theorem tPow : (Tryz.prog.globals[0]?).map (·.type) = some 117 := by kernel_rfl
theorem tWays : (Tryz.prog.globals[1]?).map (·.type) = some 123 := by kernel_rfl
theorem cells117 : Tryz.prog.cellsOf 117 = 9 := by kernel_rfl
theorem cells94 : Tryz.prog.cellsOf 94 = 1 := by kernel_rfl
theorem cells123 : Tryz.prog.cellsOf 123 = 8 := by kernel_rfl
theorem cells120 : Tryz.prog.cellsOf 120 = 1 := by kernel_rfl
theorem cells122 : Tryz.prog.cellsOf 122 = 1 := by kernel_rfl
theorem powers {W : World} (h : laidMet Tryz.prog laid3 W) : Lib.TabIs Tryz.prog W "figurehead/ten.powers" .u32 [1, 10, 100, 1000, 10000, 100000, 1000000, 10000000, 100000000] := by
  obtain ⟨ps, ⟨g0, t0, cs0, f0, p0, q0, hg0, ht0, hv0, hd0, ⟨g, t, cs, f, p, q, hg, ht, hv, hd, _, _⟩, _⟩, _⟩ := h
  obtain rfl := Option.some.inj (gPow.symm.trans hg)
  obtain rfl := Option.some.inj (tPow.symm.trans ht)
  unfold Lib.TabIs
  rw [hv, ← Lib.cells_of_tab (zs := [1, 10, 100, 1000, 10000, 100000, 1000000, 10000000, 100000000]) Tryz.underlying117 Tryz.underlying94 cells94 cells117 hd]
theorem way_of {W : World} {fuel : Nat} {c : Value} {b : UInt8} {r : List UInt8} {x : DataW (List UInt8) × List MemPlace} {f0 : FuncId} (hone : ((List.range Tryz.prog.funcs.size).filter fun f => (Tryz.prog.funcs[f]?).any (·.name.toUTF8.data.toList == b :: r)) = [f0])
    (h : DataW.trod (funcToken Tryz.prog) Tryz.prog W 0 (fun _ => true) true fuel 122 [c] = some x) (hx : x.1 = .agg [.held (b :: r)]) : c = .func (.func f0) #[] #[] := by
  obtain ⟨xs, n, rfl, rfl, _, hl, hf⟩ := DataW.trod_struct Tryz.underlying122 h
  have h0 := hf 0 _ rfl
  match xs, hl with
  | [y], _ =>
    have hy : y.1 = .held (b :: r) := by simpa using hx
    obtain ⟨y1, y2⟩ := y
    simp only at hy
    subst hy
    have h1 : DataW.trod (funcToken Tryz.prog) Tryz.prog W 0 (fun _ => true) true n 120 (List.take (Tryz.prog.cellsOf 120) [c]) = some (.held (b :: r), y2) := h0
    rw [cells120] at h1
    exact func_of_trod (f0 := f0) Tryz.underlying120 hone h1
def wayTl (i : Nat) : List UInt8 := [105, 103, 117, 114, 101, 104, 101, 97, 100, 47, 109, 111, 100, 101, 46, 119, 97, 121, 115, 36, UInt8.ofNat (49 + i)]
theorem honeA : ((List.range 8).all fun i => decide (((List.range Tryz.prog.funcs.size).filter fun f => (Tryz.prog.funcs[f]?).any (·.name.toUTF8.data.toList == 102 :: wayTl i)) = [174 + i])) = true := by kernel_rfl
theorem hone8 (i : Nat) (hi : i < 8) : ((List.range Tryz.prog.funcs.size).filter fun f => (Tryz.prog.funcs[f]?).any (·.name.toUTF8.data.toList == 102 :: wayTl i)) = [174 + i] :=
  of_decide_eq_true (List.all_eq_true.1 honeA i (List.mem_range.2 hi))
theorem ways {W : World} (h : funcsAt Tryz.prog W "figurehead/mode.ways" (match (Rows.laid_figurehead_mode_ways : DataW Unit) with | .iface _ d => d | d => d)) (i : Nat) (hi : i < 8) : W.cell? ⟨1, i, none⟩ = some (.func (.func (174 + i)) #[] #[]) := by
  obtain ⟨g, t, cs, fuel, p, hg, ht, hv, hd⟩ := h
  obtain rfl := Option.some.inj (gWays.symm.trans hg)
  obtain rfl := Option.some.inj (tWays.symm.trans ht)
  obtain ⟨xs, m, rfl, hx, hcl, hxl, hel⟩ := DataW.trod_array Tryz.underlying123 hd
  rw [cells123] at hcl
  have hx1 : xs.map (·.1) = (List.range 8).map fun k => (.agg [.held (102 :: wayTl k)] : DataW (List UInt8)) := (DataW.agg.inj (congrArg Prod.fst hx)).symm.trans (by kernel_rfl)
  have hc := World.var?_cell gWays hv i
  have he := hel i hi
  rw [cells122] at he
  have hil : i < cs.toList.length := by omega
  have htk : (cs.toList.drop (i * 1)).take 1 = [cs.toList[i]] := by rw [Nat.mul_one, List.drop_eq_getElem_cons hil]; rfl
  rw [htk, List.getElem?_eq_getElem (by omega)] at he
  have hcs : cs[i]? = some cs.toList[i] := by simp
  rw [hc, hcs]
  have hxi : xs[i].1 = .agg [.held (102 :: wayTl i)] := by
    have h1 := congrArg (·[i]?) hx1
    simp only [List.getElem?_map, List.getElem?_range hi, Option.map_some] at h1
    rw [List.getElem?_eq_getElem (by omega)] at h1
    simpa using h1
  congr 1
  generalize cs.toList[i] = c at he
  exact way_of (b := 102) (r := wayTl i) (hone8 i hi) he hxi
def Cg (b o : Nat) : Prop := (b = 0 ∧ o < 9) ∨ (b = 1 ∧ o < 8)
theorem gs_of {W : World} (h : laidMetH Tryz.prog laid4 W) : GRel gs Cg W := by
  obtain ⟨h1, h2⟩ := laid_parts h
  have hp := powers h1
  have hw := ways h2
  have hc : ∀ i, i < 9 → W.cell? ⟨0, i, none⟩ = some (.int .u32 (([1, 10, 100, 1000, 10000, 100000, 1000000, 10000000, 100000000] : List Int).getD i 0)) := fun i hi => hp.cell gPow i hi
  intro g v hm
  simp only [gs, List.mem_cons, List.not_mem_nil, or_false, Prod.mk.injEq] at hm
  rcases hm with ⟨rfl, rfl⟩ | ⟨rfl, rfl⟩
  · refine .ref _ (.agg (([1, 10, 100, 1000, 10000, 100000, 1000000, 10000000, 100000000] : List Int).map fun z => Value.int .u32 z).toArray) 0 0 (.agg _ _ rfl (fun i c u hc hu => ?_) (by simp [Value.oneCell'])) fun j c hj => ?_
    · have hi : i < 9 := (List.getElem?_eq_some_iff.1 hc).1
      match i, hi, hc, hu with
      | 0, _, hc, hu => cases hc; cases hu; exact .int _ _
      | 1, _, hc, hu => cases hc; cases hu; exact .int _ _
      | 2, _, hc, hu => cases hc; cases hu; exact .int _ _
      | 3, _, hc, hu => cases hc; cases hu; exact .int _ _
      | 4, _, hc, hu => cases hc; cases hu; exact .int _ _
      | 5, _, hc, hu => cases hc; cases hu; exact .int _ _
      | 6, _, hc, hu => cases hc; cases hu; exact .int _ _
      | 7, _, hc, hu => cases hc; cases hu; exact .int _ _
      | 8, _, hc, hu => cases hc; cases hu; exact .int _ _
    · have hi : j < 9 := (Array.getElem?_eq_some_iff.1 hj).1
      refine ⟨.inl ⟨rfl, by omega⟩, ?_⟩
      rw [Nat.zero_add, hc j hi, ← hj]
      match j, hi with
      | 0, _ => rfl
      | 1, _ => rfl
      | 2, _ => rfl
      | 3, _ => rfl
      | 4, _ => rfl
      | 5, _ => rfl
      | 6, _ => rfl
      | 7, _ => rfl
      | 8, _ => rfl
  · refine .ref _ (.agg ((List.range 8).map fun k => Value.func (.func (174 + k)) #[] #[]).toArray) 1 0 (.agg _ _ rfl (fun i c u hc hu => ?_) (by simp [Value.oneCell'])) fun j c hj => ?_
    · have hi : i < 8 := (List.getElem?_eq_some_iff.1 hc).1
      match i, hi, hc, hu with
      | 0, _, hc, hu => cases hc; cases hu; exact .fn _
      | 1, _, hc, hu => cases hc; cases hu; exact .fn _
      | 2, _, hc, hu => cases hc; cases hu; exact .fn _
      | 3, _, hc, hu => cases hc; cases hu; exact .fn _
      | 4, _, hc, hu => cases hc; cases hu; exact .fn _
      | 5, _, hc, hu => cases hc; cases hu; exact .fn _
      | 6, _, hc, hu => cases hc; cases hu; exact .fn _
      | 7, _, hc, hu => cases hc; cases hu; exact .fn _
    · have hi : j < 8 := (Array.getElem?_eq_some_iff.1 hj).1
      refine ⟨.inr ⟨rfl, by omega⟩, ?_⟩
      rw [Nat.zero_add, hw j hi, ← hj]
      match j, hi with
      | 0, _ => rfl
      | 1, _ => rfl
      | 2, _ => rfl
      | 3, _ => rfl
      | 4, _ => rfl
      | 5, _ => rfl
      | 6, _ => rfl
      | 7, _ => rfl
end Go.Proofs.YtgehlcgjchfibaaGreatDoor.F
namespace Go.Proofs.YtgehlcgjchfibaaGreatDoor.F
open Go Go.ChangeShapes Go.WideShapes Go.ChangeAt Go.RowKit Go.Joins Go.Proofs
section
variable {H : Type} {enc : TypeId × Value → H} {W : World} {base b1 : Nat} {sp : Nat → Bool} {held : Bool}
theorem cells23 : Tryz.prog.cellsOf 23 = 3 := by kernel_rfl
def decD (neg : Bool) (s : ByteArray) (e : Int) : DataW H := .agg [.lit (.bool neg), .lit (.string s.data.toList), .lit (.int .i64 e)]
def decV (neg : Bool) (s : ByteArray) (e : Int) : Value := .agg #[.bool neg, .string s, .int .i64 e]
theorem dec_open {v : Value} {d : DataW H} {p : List MemPlace} (hv : Value.okWide Tryz.prog W .any base 23 v) (h : DataW.Trod enc Tryz.prog W b1 sp held 23 v d p) :
    ∃ neg s e, v = decV neg s e ∧ d = decD neg s e ∧ p = [] ∧ s.size ≤ maxLen ∧ (Lit.int .i64 e).wf = true := by
  obtain ⟨v0, v1, v2, y0, y1, y2, n, rfl, rfl, rfl, h0, h1, h2⟩ := open_agg3 Tryz.underlying23 (by kernel_rfl) cells23 hv h
  obtain ⟨neg, hc0, rfl⟩ := DataW.trod_bool Tryz.underlying4 h0
  obtain ⟨s, hc1, rfl, hs⟩ := DataW.trod_string Tryz.underlying9 h1
  obtain ⟨e, hc2, rfl, he⟩ := DataW.trod_int Tryz.underlying3 h2
  cases hc0
  cases hc1
  cases hc2
  exact ⟨neg, s, e, rfl, rfl, rfl, hs, he⟩
theorem dec_shut {neg : Bool} {s : ByteArray} {e : Int} (hs : s.size ≤ maxLen) (he : (Lit.int .i64 e).wf = true) : DataW.Trod enc Tryz.prog W b1 sp held 23 (decV neg s e) (decD neg s e) [] := by
  have := shut_agg3 (enc := enc) (P := Tryz.prog) (w := W) (base := b1) (spare := sp) (held := held) (v0 := .bool neg) (v1 := .string s) (v2 := .int .i64 e) (y0 := (.lit (.bool neg), [])) (y1 := (.lit (.string s.data.toList), [])) (y2 := (.lit (.int .i64 e), [])) Tryz.underlying23 (by kernel_rfl) cells23
    ⟨1, by simp [DataW.trod, Tryz.underlying4]⟩ ⟨1, by simp [DataW.trod, Tryz.underlying9, hs]⟩ ⟨1, by simp [DataW.trod, Tryz.underlying3, he]⟩
  exact this
theorem rel_bytes {C : Nat → Nat → Prop} {w : World} (s : ByteArray) : Rel C w (.str s.data.toList) (.string s) := .str s.data.toList
theorem rel_dec {C : Nat → Nat → Prop} {w : World} (neg : Bool) (s : ByteArray) (e : Int) : Rel C w (.agg [.bool neg, .str s.data.toList, .int .i64 e]) (decV neg s e) := by
  refine .agg _ [.bool neg, .string s, .int .i64 e] rfl (fun i c u hc hu => ?_) (by simp [Value.oneCell'])
  have hi : i < 3 := (List.getElem?_eq_some_iff.1 hc).1
  match i, hi, hc, hu with
  | 0, _, hc, hu => cases hc; cases hu; exact .bool _
  | 1, _, hc, hu => cases hc; cases hu; exact rel_bytes s
  | 2, _, hc, hu => cases hc; cases hu; exact .int _ _
end
theorem bulk_part {H : Type} {d : DataW H} {l : List (DataW H)} (h : d ∈ l) : Rows.uptoBulk d ≤ Rows.uptoBulkAll l := by
  induction l with
  | nil => cases h
  | cons x r ih =>
    simp only [Rows.uptoBulkAll]
    rcases List.mem_cons.1 h with e | e
    · subst e; omega
    · have := ih e; omega
theorem bulk_le {H : Type} {l : List (DataW H)} (hk : Rows.uptoSmall H l = true) {s : List UInt8} {d : DataW H} (h : d ∈ l) (hs : s.length ≤ Rows.uptoBulk d) : s.length ≤ 1048576 :=
  Nat.le_trans hs (Nat.le_trans (bulk_part h) (of_decide_eq_true hk))
theorem cell_lt {W : World} {b o : Nat} {v : Value} (h : W.cell? ⟨b, o, none⟩ = some v) : b < W.heap.size := by
  refine Classical.byContradiction fun hn => ?_
  have : W.heap[b]? = none := Array.getElem?_eq_none (by omega)
  simp [World.cell?, this] at h
theorem Cg_lt {W : World} (h : laidMetH Tryz.prog laid4 W) (b o : Nat) (hc : Cg b o) : b < W.heap.size := by
  obtain ⟨h1, h2⟩ := laid_parts h
  rcases hc with ⟨rfl, _⟩ | ⟨rfl, _⟩
  · exact cell_lt ((powers h1).cell gPow 0 (by decide))
  · exact cell_lt (ways h2 0 (by decide))
theorem post_true {H : Type} {enc : TypeId × Value → H} {f : Func} {s : ChangeSpec} {W W' : World} {args : Array Value} {ds : List (DataW H)}
    (hW : DataW.Whole enc Tryz.prog f.params.toList s.vars false W args.toList ds [] []) (hv : s.vars = []) (hf : s.fn H (ds ++ []) = { results := [.lit (.bool true)], args := ds }) (hr : f.resultTypes = #[4])
    (hargs : ∀ sp : Nat → Bool, DataW.TrodAll enc Tryz.prog W' 0 sp true f.params.toList args.toList ds []) (hb : Below W.heap.size W W') :
    s.post enc Tryz.prog f false true false false W args (.bool true) W' := by
  refine ⟨ds, [], [], [], [], [], hW, ?_, ?_, ?_, hb.frame _, fun h => by cases h⟩
  · rw [hf, hr]
    exact trodAll_mk1 (shut_bool Tryz.underlying4 true)
  · rw [hf]
    exact hargs _
  · rw [hf, hv]
    rfl
def cellsD : DataW Unit → List Value
  | .agg ds => ds.flatMap fun
    | .lit (.int k z) => [.int k z]
    | .agg es => es.map fun
      | .lit (.int k z) => .int k z
      | _ => .bool false
    | _ => []
  | _ => []
def setC (cs : List Value) : Obj → Obj
  | .cells _ t frozen => .cells cs.toArray t frozen
  | o => o
noncomputable def laidWorld (os : Os) : World :=
  { World.holding Tryz.prog os ⟨#[], #[], []⟩ with
    heap := ((((World.holding Tryz.prog os ⟨#[], #[], []⟩).heap.modify 0 (setC (cellsD Rows.laid_figurehead_ten_powers))).modify 1 (setC ((List.range 8).map fun k => Value.func (.func (174 + k)) #[] #[]))).modify 2 (setC (cellsD Rows.laid_unicode_utf8_first))).modify 3 (setC (cellsD Rows.laid_unicode_utf8_acceptRanges)) }
theorem laid_met (os : Os) (args : Array Value) : laidMetH Tryz.prog laid4 ((laidWorld os).forCall (fun _ _ => 0) ⟨#[], args, []⟩).memory :=
  laidMetH_of_parts3 (fuel := 8) (laidMet_of_run' 8 (by kernel_rfl) (by kernel_rfl)) (by kernel_rfl) (by kernel_rfl)
end Go.Proofs.YtgehlcgjchfibaaGreatDoor.F
namespace Go.Proofs.YtgehlcgjchfibaaGreatDoor.F
open Go Go.RowKit Go.Proofs
noncomputable def regOps (rid : Nat) : Code → Option (Array Oper)
  | .region i ops _ => if i = rid then some ops else none
  | .seq a b => match regOps rid a with | some o => some o | none => regOps rid b
  | .cond _ a b => match regOps rid a with | some o => some o | none => regOps rid b
  | .block _ a => regOps rid a
  | .loop a => regOps rid a
  | .rangeFunc _ _ a b => match regOps rid a with | some o => some o | none => regOps rid b
  | _ => none
noncomputable def opOf (f : Func) (rid k : Nat) : Oper := (((f.body.bind (regOps rid)).bind (·[k]?))).getD ⟨none, .panic (.tmp 0), 0, "", #[], none⟩
@[congr] theorem rawK_cg {X : Env} {ro : Oper} {K : St → Prop} {s s' : St} {p : Prop} (ht : ((0 : Nat) = 0) = p) (h' : s = s') : rawK X ro K s = rawK X ro K s' := by rw [h']
section
variable {X : Ctx} {μ : Nat → Value} {C : Nat → Nat → Prop} {T : Nat → Option AV} {O : Nat → Option Ob} {a : Act} {w : World}
theorem InvAt.newIter (h : InvAt X μ C T O a w) {d : Nat} (hd : d < X.nt) (z : List UInt8) :
    InvAt X (updμ μ d (.pointer (some ⟨w.heap.size, 0, none⟩))) C (setF (fun t => killF d (T t)) d (some (.box d 0))) (setF O d (some (.iter z 0))) (a.put (some d) (.pointer (some ⟨w.heap.size, 0, none⟩))) (w.alloc (.stringIter ⟨z.toArray⟩ 0)) := by
  have hb := alloc_heap w (.stringIter ⟨z.toArray⟩ 0)
  have hcell : ∀ b o, C b o → (w.alloc (.stringIter ⟨z.toArray⟩ 0)).cell? ⟨b, o, none⟩ = w.cell? ⟨b, o, none⟩ := fun b o hc => cell_same (hb.block b (h.c_lt b o hc)) o
  refine h.obj hd (h.npin hd) (fun _ _ h => h) hcell (fun b o hc => ⟨Nat.lt_of_lt_of_le (h.c_lt b o hc) hb.size, (h.cw b o hc).2⟩) (h.be.below h.nw hb) ?_ (fun j c hj hc g hg => ?_) ⟨w.heap.size, by simp [updμ], rfl⟩
  · exact ⟨_, rfl, h.nw _ h.be.size, heap_alloc_new w _, fun o hc => Nat.lt_irrefl _ (h.c_lt _ o hc)⟩
  · have := (h.ob j c hc).lt g hg
    exact ⟨hb.block g this.2.1, fun _ h => h, by simp only [mblk, ne_eq, Option.some.injEq]; omega⟩
theorem InvAt.movIter (h : InvAt X μ C T O a w) {i : Nat} {z : List UInt8} {pos : Nat} (hi : O i = some (.iter z pos)) {g : Nat} (hg : μ i = .pointer (some ⟨g, 0, none⟩)) (pos' : Nat) :
    InvAt X μ C T (setF O i (some (.iter z pos'))) a (w.iterAt g ⟨z.toArray⟩ pos') := by
  obtain ⟨g', hm, hg', hh, hn⟩ := h.ob i _ hi
  rw [hg] at hm
  injection hm with hm; injection hm with hm; injection hm with hm
  subst hm
  have hlt : g < w.heap.size := (Array.getElem?_eq_some_iff.1 hh).1
  refine h.upd hi ?_ (fun k hk => ?_) (by simp [World.iterAt]) ⟨rfl, rfl, rfl⟩
  · rw [hg]
    exact ⟨g, rfl, hg', Lib.iterAt_heap w g _ pos pos' hh, hn⟩
  · have : k ≠ g := fun e => hk (by rw [hg, e]; rfl)
    simp [World.iterAt, Array.getElem?_setIfInBounds, Ne.symm this]
end
theorem raw_range {ro : Oper} {T : TypeId} {x' : Operand} {x : Opd} {d : Nat} {z : List UInt8} {K : St → Prop} {s : St} (ho : ro.op = .range T x') (hd : ro.dst = some d) (hT : Tryz.prog.underlying T = some .string) (hx : compOpd x' = some x) (hv : opd e0.G s x = some (.str z))
    (hk : K (s.new d d (.iter z 0) (.box d 0))) : rawK e0 ro K s := by
  intro Y a w Q hP hG hnt ⟨μ, C, h⟩
  rw [← hG] at hv
  have hz := ((h.know false [x]).at (by simp) hx hv).str_inv
  have hdn := hnt d hd
  have hT' : Y.P.underlying T = some .string := by rw [hP]; exact hT
  refine wp_value (u := .pointer (some ⟨w.heap.size, 0, none⟩)) (w' := w.alloc (.stringIter ⟨z.toArray⟩ 0)) ?_ ⟨_, ?_, hk⟩
  · unfold execOp
    have := run_range_string (P := Y.P) w T ⟨z.toArray⟩ hT'
    simp only [ho, hz, Sem.run_bind, this, Result.andThen_ok, Sem.run_pure]
    rfl
  · rw [hd]
    exact .of_new (h.newIter hdn z)
def runeAt (z : List UInt8) (pos : Nat) : Nat × Nat := Utf8.decode ⟨z.toArray⟩ pos
theorem size_z (z : List UInt8) : (⟨z.toArray⟩ : ByteArray).size = z.length := by simp [ByteArray.size]
theorem get_z (z : List UInt8) (i : Nat) : (⟨z.toArray⟩ : ByteArray).get! i = z.getD i 0 := by
  simp [ByteArray.get!, List.getD_eq_getElem?_getD]; rfl
theorem runeAt_ascii {z : List UInt8} {pos : Nat} (h : (z.getD pos 0).toNat < 128) : runeAt z pos = ((z.getD pos 0).toNat, 1) := by
  unfold runeAt
  rw [Lib.decode_at, get_z]
  unfold Lib.decodeN
  rw [if_pos h]
theorem runeAt_big {z : List UInt8} {pos : Nat} (h : 128 ≤ (z.getD pos 0).toNat) : 128 ≤ (runeAt z pos).1 := by
  unfold runeAt
  rw [Lib.decode_at, get_z]
  unfold Lib.decodeN
  repeat' split
  all_goals (try simp only) <;> omega
theorem raw_next {ro : Oper} {x' : Operand} {x : Opd} {d i : Nat} {z : List UInt8} {pos : Nat} {K : St → Prop} {s : St} (ho : ro.op = .next x' true) (hd : ro.dst = some d) (hx : compOpd x' = some x) (hv : opd e0.G s x = some (.box i 0)) (hi : look s.o i = some (.iter z pos)) (hp : pos < z.length)
    (hk : K ((s.upd i (.iter z (pos + (runeAt z pos).2))).put d (.tup [.bool true, .int .i64 pos, .int .i32 (runeAt z pos).1]))) : rawK e0 ro K s := by
  intro Y a w Q hP hG hnt ⟨μ, C, h⟩
  rw [← hG] at hv
  obtain ⟨g, hm, hu⟩ := (h.know false [x]).at (by simp) hx hv
  have hdn := hnt d hd
  obtain ⟨g', hm', hg', hh, hn⟩ := h.ob i _ hi
  rw [hm] at hm'
  injection hm' with hm'; injection hm' with hm'; injection hm' with hm'
  subst hm'
  refine wp_value (u := .tuple #[.bool true, .int .i64 pos, .int .i32 (runeAt z pos).1]) (w' := w.iterAt g ⟨z.toArray⟩ (pos + (runeAt z pos).2)) ?_ ⟨_, ?_, hk⟩
  · unfold execOp
    have := Lib.run_next_any_at (P := Y.P) w g ⟨z.toArray⟩ pos ro.type hh (by rw [size_z]; exact hp)
    simp only [ho, hu, Sem.run_bind, this, Result.andThen_ok, Sem.run_pure]
    rfl
  · have h2 := h.movIter hi hm (pos + (runeAt z pos).2)
    rw [hd]
    refine ⟨μ, C, ?_⟩
    exact h2.put hdn (.of_rel (.tup _ _ rfl fun k c u hc hu => by
      match k, hc, hu with
      | 0, hc, hu => simp at hc hu; subst hc hu; exact .bool _
      | 1, hc, hu => simp at hc hu; subst hc hu; exact .int _ _
      | 2, hc, hu => simp at hc hu; subst hc hu; exact .int _ _
      | k + 3, hc, hu => simp at hc))
theorem raw_next_end {ro : Oper} {x' : Operand} {x : Opd} {d i : Nat} {z : List UInt8} {pos : Nat} {K : St → Prop} {s : St} (ho : ro.op = .next x' true) (hd : ro.dst = some d) (hx : compOpd x' = some x) (hv : opd e0.G s x = some (.box i 0)) (hi : look s.o i = some (.iter z pos)) (hp : ¬ pos < z.length)
    (hk : K (s.put d (.tup [.bool false]))) : rawK e0 ro K s := by
  intro Y a w Q hP hG hnt ⟨μ, C, h⟩
  rw [← hG] at hv
  obtain ⟨g, hm, hu⟩ := (h.know false [x]).at (by simp) hx hv
  have hdn := hnt d hd
  obtain ⟨g', hm', hg', hh, hn⟩ := h.ob i _ hi
  rw [hm] at hm'
  injection hm' with hm'; injection hm' with hm'; injection hm' with hm'
  subst hm'
  refine wp_value (u := .tuple #[.bool false]) (w' := w) ?_ ⟨_, ?_, hk⟩
  · unfold execOp
    have := Lib.run_next_end_at (P := Y.P) w g ⟨z.toArray⟩ pos ro.type hh (by rw [size_z]; exact hp)
    simp only [ho, hu, Sem.run_bind, this, Result.andThen_ok, Sem.run_pure]
  · rw [hd]
    refine ⟨μ, C, ?_⟩
    exact h.put hdn (.of_rel (.tup _ _ rfl fun k c u hc hu => by
      match k, hc, hu with
      | 0, hc, hu => simp at hc hu; subst hc hu; exact .bool _
      | k + 1, hc, hu => simp at hc))
theorem raw_alloc {ro : Oper} {T : TypeId} {d : Nat} {us : List Value} {cs : List AV} {K : St → Prop} {s : St} (ho : ro.op = .alloc T) (hd : ro.dst = some d) (hT : (Tryz.prog.info? T).map (·.zero) = some (some (.agg us.toArray))) (hz : okCells cs us = true)
    (hk : K (s.new d d (.box T cs) (.box d 0))) : rawK e0 ro K s := by
  intro Y a w Q hP hG hnt ⟨μ, C, h⟩
  have hdn := hnt d hd
  obtain ⟨i, hi, hzv⟩ := Option.map_eq_some_iff.1 hT
  have hi' : Y.P.info? T = some i := by rw [hP]; exact hi
  obtain ⟨hr, h1⟩ := okCells_rel (C := C) (w := w) hz
  refine wp_value (u := .pointer (some ⟨w.heap.size, 0, none⟩)) (w' := w.alloc (.cells us.toArray T)) ?_ ⟨_, ?_, hk⟩
  · unfold execOp
    simp [ho, Instr.alloc, zeroValue, run_typeInfo w hi', hzv, newVar, newRow, Value.cells]
  · rw [hd]
    exact .of_new (h.newBox hdn hr h1)
theorem InvAt.shut {X : Ctx} {μ : Nat → Value} {C : Nat → Nat → Prop} {s : St} {a : Act} {w : World} (h : InvAt X μ C (look s.t) (look s.o) a w) {i : Nat} {Ty : TypeId} {cs : List AV} (hi : look s.o i = some (.box Ty cs)) {g : Nat} (hg : μ i = .pointer (some ⟨g, 0, none⟩)) :
    InvAt X μ (fun b o => C b o ∨ b = g) (look (killT i s.t)) (look (dropO i s.o)) a w := by
  have hlt := (h.ob i _ hi).lt g (by rw [hg]; rfl)
  have hC : ∀ b o, C b o → (C b o ∨ b = g) := fun b o hc => .inl hc
  refine ⟨fun t x ht => ?_, fun j c hj => ?_, fun j k c d hj hk' hne => h.ap j k c d (look_dropO hj).1 (look_dropO hk').1 hne, fun b o hc => ?_, fun b o hc => .inl (h.c0 b o hc), h.gr.mono hC (fun _ _ _ => rfl), h.be, h.sz, h.df, h.nw, h.pn, h.nb⟩
  · rw [look_killT] at ht
    cases hl : look s.t t with
    | none => rw [hl] at ht; cases ht
    | some y =>
      rw [hl] at ht
      simp only [killF, Option.some.injEq] at ht
      obtain ⟨u, h1, h2⟩ := h.tm t y hl
      split at ht
      · subst ht
        exact ⟨u, h1, h2.mono hC (fun _ _ _ => rfl)⟩
      · subst ht
        exact ⟨u, h1, .top u⟩
  · obtain ⟨hl, hne⟩ := look_dropO hj
    refine (h.ob j c hl).kept hC (fun _ _ _ => rfl) fun g' hg' => ⟨rfl, fun o hc => hc.resolve_right fun he => ?_⟩
    subst he
    rcases h.ap i j _ c hi hl (Ne.symm hne) with h1 | h1
    · rw [hg] at h1; cases h1
    · exact h1 (by rw [hg']; rw [hg]; rfl)
  · rcases hc with hc | hc
    · exact h.cw b o hc
    · subst hc; exact ⟨hlt.2.1, .inr hlt.1⟩
theorem raw_arr {ro : Oper} {T e : TypeId} {x' : Operand} {x : Opd} {d i n : Nat} {Ty : TypeId} {cs : List AV} {K : St → Prop} {s : St} (ho : ro.op = .slice T x' none none none) (hd : ro.dst = some d) (hT : Tryz.prog.underlying T = some (.array n e)) (he : (Tryz.prog.info? e).isSome = true)
    (hx : compOpd x' = some x) (hv : opd e0.G s x = some (.box i 0)) (hi : look s.o i = some (.box Ty cs)) (hn : cs.length = n) (h1 : ∀ c ∈ cs, c.one = true)
    (hk : K ⟨(d, .sl 1 cs) :: killT i s.t, dropO i s.o⟩) : rawK e0 ro K s := by
  intro Y a w Q hP hG hnt ⟨μ, C, h⟩
  rw [← hG] at hv
  obtain ⟨g, hm, hu⟩ := (h.know false [x]).at (by simp) hx hv
  have hdn := hnt d hd
  obtain ⟨g', us, hm', hg', hh, hr, ho1, hno⟩ := h.ob i _ hi
  rw [hm] at hm'
  injection hm' with hm'; injection hm' with hm'; injection hm' with hm'
  subst hm'
  obtain ⟨ii, hii⟩ := Option.isSome_iff_exists.1 he
  have hii' : Y.P.info? e = some ii := by rw [hP]; exact hii
  have hT' : Y.P.underlying T = some (.array n e) := by rw [hP]; exact hT
  have hul : us.length = cs.length := hr.1.symm
  refine wp_value (u := .slice (some ⟨g, 0, none⟩) n n) (w' := w) ?_ ⟨_, ?_, hk⟩
  · unfold execOp
    have hb : ∀ (W : World), (Instr.sliceBounds false n n none none none).run Y.P W = .ok (0, n, n) W := by
      intro W
      simp [Instr.sliceBounds]
    have : (Instr.sliceAt T (.pointer (some ⟨g, 0, none⟩)) none none none).run Y.P w = .ok (.slice (some ⟨g, 0, none⟩) n n) w := by
      simp only [Instr.sliceAt, Sem.run_bind, run_underlying hT', Result.andThen_ok, Instr.sureAddr, Sem.run_pure, hb, run_sizeOf w hii', Nat.sub_zero, Nat.zero_mul]
      split <;> simp [Addr.add]
    simp only [ho, hu, Option.map_none, Sem.run_bind, this, Result.andThen_ok, Sem.run_pure]
  · have h2 := h.shut hi hm
    rw [hd]
    refine ⟨μ, fun b o => C b o ∨ b = g, ?_⟩
    rw [look_cons]
    refine h2.put hdn (.of_rel ?_)
    have := Rel.sl (C := fun b o => C b o ∨ b = g) (w := w) 1 cs g 0 n (fun k => us.getD k undef) (by omega)
      (fun k x hx => by
        have hk : k < us.length := by rw [hul]; exact (List.getElem?_eq_some_iff.1 hx).1
        simp only [List.getD_eq_getElem?_getD, List.getElem?_eq_getElem hk, Option.getD_some]
        exact (hr.2 k x _ hx (List.getElem?_eq_getElem hk)).mono (fun _ _ h => .inl h) (fun _ _ _ => rfl))
      (fun k hk => by
        have hk' : k < us.length := by omega
        simp only [List.getD_eq_getElem?_getD, List.getElem?_eq_getElem hk', Option.getD_some]
        have hone := (hr.2 k cs[k] us[k] (List.getElem?_eq_getElem hk) (List.getElem?_eq_getElem hk')).one (h1 _ (List.getElem_mem hk))
        rw [hone.2]
        exact ⟨rfl, fun c hc => by simp at hc; subst hc; exact hone.1⟩)
      (fun k j c hk hj => by
        have hk' : k < us.length := by omega
        simp only [List.getD_eq_getElem?_getD, List.getElem?_eq_getElem hk', Option.getD_some] at hj
        have hone := (hr.2 k cs[k] us[k] (List.getElem?_eq_getElem hk) (List.getElem?_eq_getElem hk')).one (h1 _ (List.getElem_mem hk))
        rw [hone.2] at hj
        have hj0 : j = 0 := by have := (Array.getElem?_eq_some_iff.1 hj).1; simp at this; omega
        subst hj0
        have hc : c = us[k] := by simpa using hj.symm
        refine ⟨.inr rfl, ?_⟩
        rw [hc]
        have := box_cells hh k us[k] (List.getElem?_eq_getElem hk')
        simpa using this)
    rwa [hn] at this
set_option linter.defProp false in
def wkA := And.intro @VC_skip <| And.intro @VC_reg0 <| And.intro @VC_reg1 <| And.intro @VC_seq <| And.intro @VC_cond <| And.intro @VC_block <| And.intro @VC_loop <| And.intro @VC_exit <| And.intro @VC_ret <| And.intro @grd_tt <| And.intro @grd_tf <| And.intro @grd_ft <| And.intro @grd_ff <| And.intro @grd_no <| And.intro @cnd_t <| And.intro @cnd_f <| And.intro @thenQ.eq_1 <| And.intro @thenQ.eq_2 <| And.intro @blockQ.eq_1 <| And.intro @blockQ.eq_2 <| And.intro @kpQ.eq_1 <| And.intro @ER_nil <| And.intro @ER_op <| And.intro @ER_grd <| And.intro @E1.eq_1 <| And.intro @ERD_nil <| And.intro @ERD_op <| And.intro @ERD_grd <| And.intro @E1D.eq_1 <| And.intro @fresh.eq_1 <| And.intro @fresh.eq_2 <| And.intro @IOp.isNew.eq_1 <| And.intro @IOp.isNew.eq_2 <| And.intro @IOp.isNew.eq_3 <| And.intro @IOp.isNew.eq_4 <| And.intro @okR.eq_1 <| And.intro @okR.eq_2 <| And.intro @okR.eq_3 <| And.intro @okR.eq_4 <| And.intro @okW.eq_1 <| And.intro @okW.eq_2 <| And.intro @okW.eq_3 <| And.intro @St.norm.eq_1 <| And.intro @St.norm.eq_2 <| And.intro @St.norm.eq_3 <| And.intro @St.frz.eq_1 <| And.intro @frzT.eq_1 <| And.intro @dropO.eq_1 <| And.intro @IOp.vals.eq_1 <| And.intro @IOp.vals.eq_2 <| And.intro @IOp.vals.eq_3 <| And.intro @IOp.vals.eq_4 <| And.intro @IOp.vals.eq_5 <| And.intro @IOp.vals.eq_6 <| And.intro @IOp.vals.eq_7 <| And.intro @IOp.vals.eq_8 <| And.intro @IOp.vals.eq_9 <| And.intro @IOp.vals.eq_10 <| And.intro @IOp.vals.eq_11 <| And.intro @IOp.opds.eq_1 <| And.intro @IOp.opds.eq_2 <| And.intro @IOp.opds.eq_3 <| And.intro @IOp.opds.eq_4 <| And.intro @IOp.opds.eq_5 <| And.intro @IOp.opds.eq_6 <| And.intro @IOp.opds.eq_7 <| And.intro @IOp.opds.eq_8 <| And.intro @IOp.opds.eq_9 <| And.intro @IOp.opds.eq_10 <| And.intro @IOp.opds.eq_11 <| And.intro @IOp.opds.eq_12 <| And.intro @IOp.opds.eq_13 <| And.intro @IOp.opds.eq_14 <| And.intro @IOp.opds.eq_15 <| And.intro @IOp.opds.eq_16 <| And.intro @IOp.opds.eq_17 <| And.intro @IOp.opds.eq_18 <| And.intro @IOp.opds.eq_19 <| And.intro @IOp.opds.eq_20 <| And.intro @IOp.opds.eq_21 <| And.intro @IOp.opds.eq_22 <| And.intro @IOp.opds.eq_23 <| And.intro @IOp.opds.eq_24 <| And.intro @IOp.opds.eq_25 <| And.intro @IOp.opds.eq_26 <| And.intro @IOp.opds.eq_27 <| And.intro @IOp.opds.eq_28 <| And.intro @IOp.opds.eq_29 <| And.intro @IOp.opds.eq_30 <| And.intro @pureV.eq_1 <| And.intro @pureV.eq_2 <| And.intro @pureV.eq_3 <| And.intro @pureV.eq_4 <| And.intro @pureV.eq_5 <| And.intro @pureV.eq_6 <| And.intro @pureV.eq_7 <| And.intro @pureV.eq_8 <| And.intro @pureV.eq_9 <| And.intro @pureV.eq_10 <| And.intro @pureV.eq_11 <| And.intro @pureV.eq_12 <| And.intro @pureV.eq_13 <| And.intro @pureV.eq_14 <| And.intro @pureV.eq_15 <| And.intro @pureV.eq_16 <| And.intro @pureV.eq_17 <| And.intro @pureV.eq_18 <| And.intro @pureV.eq_19 <| And.intro @pureV.eq_20 <| And.intro @pureV.eq_21 <| And.intro @pureV.eq_22 <| And.intro @opd_t <| And.intro @opd_c <| And.intro @opd_g <| And.intro @val.eq_1 <| And.intro @AV.vok.eq_1 <| And.intro @AV.vok.eq_2 <| And.intro @AV.vok.eq_3 <| And.intro @AV.vok.eq_4 <| And.intro @AV.vok.eq_5 <| And.intro @AV.vok.eq_6 <| And.intro @argV.eq_1 <| And.intro @argV.eq_2 <| And.intro @valsV.eq_1 <| And.intro @valsV.eq_2 <| And.intro @look_n <| And.intro @look_c <| And.intro @argT.eq_1 <| And.intro @argT.eq_2 <| And.intro @St.putD.eq_1 <| And.intro @St.putD.eq_2 <| And.intro @St.put.eq_1 <| And.intro @St.new.eq_1 <| And.intro @St.newD.eq_1 <| And.intro @St.upd.eq_1 <| And.intro @killT.eq_1 <| And.intro @AV.nid.eq_1 <| And.intro @AV.nid.eq_2 <| And.intro @AV.nid.eq_3 <| And.intro @AV.nid.eq_4 <| And.intro @St.keep.eq_1 <| And.intro @keepT.eq_1 <| And.intro @keepO.eq_1 <| And.intro @List.filterMap_cons.{0, 0} <| And.intro @List.filterMap_nil.{0, 0} <| And.intro @List.map_cons.{0, 0} <| And.intro @List.map_nil.{0, 0} <| And.intro @List.all_cons.{0} <| And.intro @List.all_nil.{0} <| And.intro @List.filter_cons.{0} <| And.intro @List.filter_nil.{0} <| And.intro @Option.map_some.{0, 0} <| And.intro @Option.map_none.{0, 0} <| And.intro @avCells.eq_1 <| And.intro @avCells.eq_2 <| And.intro @cut.eq_1 <| And.intro @cut.eq_2 <| And.intro @splice.eq_1 <| And.intro @fillAV.eq_1 <| And.intro @fillAV.eq_2 <| And.intro @binV.eq_1 <| And.intro @binV.eq_2 <| And.intro @binV.eq_3 <| And.intro @binV.eq_4 <| And.intro @binV.eq_5 <| And.intro @binV.eq_6 <| And.intro @binV.eq_7 <| And.intro @binV.eq_8 <| And.intro @binV.eq_9 <| And.intro @binV.eq_10 <| And.intro @binV.eq_11 <| And.intro @binV.eq_12 <| And.intro @binV.eq_13 <| And.intro @binV.eq_14 <| And.intro @binV.eq_15 <| And.intro @binV.eq_16 <| And.intro @binV.eq_17 <| And.intro @binV.eq_18 <| And.intro @binV.eq_19 <| And.intro @binV.eq_20 <| And.intro @binV.eq_21 <| And.intro @binV.eq_22 <| And.intro @binV.eq_23 <| And.intro @binV.eq_24 <| And.intro @loV.eq_1 <| And.intro @loV.eq_2 <| And.intro @hiV.eq_1 <| And.intro @hiV.eq_2 <| And.intro @retQ.eq_1 <| And.intro @retQ.eq_2 <| And.intro @retQ.eq_3 <| And.intro @retV.eq_1 <| And.intro @retV.eq_2 <| And.intro @retV.eq_3 <| And.intro @resOpds.eq_1 <| And.intro @tupV.eq_1 <| And.intro @tupV.eq_2 <| And.intro @AV.plain.eq_1 <| And.intro @AV.plain.eq_2 <| And.intro @AV.plain.eq_3 <| And.intro @AV.plain.eq_4 <| And.intro @AV.one.eq_1 <| And.intro @AV.one.eq_2 <| And.intro @AV.one.eq_3 <| And.intro @AV.one.eq_4 <| And.intro @szOf.eq_1 <| And.intro @szOf.eq_2 <| And.intro @Option.toList.eq_1.{0} <| And.intro @Option.toList.eq_2.{0} <| And.intro @ne_eq.{1} <| And.intro @true_and <| And.intro @and_true <| And.intro @and_self <| And.intro @if_true.{1} <| And.intro @if_false.{1} <| And.intro @ite_true.{1} <| And.intro @ite_false.{1} <| And.intro @Bool.false_eq_true <| And.intro @Bool.true_eq_false <| And.intro @Bool.and_true <| And.intro @Bool.true_and <| And.intro @Bool.and_self <| And.intro @List.take_succ_cons.{0} <| And.intro @List.take_zero.{0} <| And.intro @List.drop_succ_cons.{0} <| And.intro @List.drop_zero.{0} <| And.intro @List.cons_append.{0} <| And.intro @List.nil_append.{0} <| And.intro @List.append_nil.{0} <| And.intro @List.length_cons.{0} <| And.intro @List.length_nil.{0} <| And.intro @Nat.zero_add <| And.intro @Nat.add_zero <| And.intro @List.getElem?_cons_zero.{0} <| And.intro @List.getElem?_cons_succ.{0} <| And.intro @Option.isNone_none.{0} <| And.intro @Option.isNone_some.{0} <| And.intro @not_false_eq_true <| And.intro @not_true_eq_false <| And.intro @g0 <| And.intro @g1 <| And.intro @pinned.eq_1 <| And.intro @retM.eq_1 <| And.intro @retM.eq_2 <| And.intro @retM.eq_3 <| And.intro @Hint.isAny.eq_1 <| And.intro @Hint.isAny.eq_2 <| And.intro @refOk.eq_1 <| @refOk.eq_2
end Go.Proofs.YtgehlcgjchfibaaGreatDoor.F
namespace Go.Proofs.YtgehlcgjchfibaaGreatDoor.F
def isDg (c : UInt8) : Bool := decide (48 ≤ c.toNat) && decide (c.toNat ≤ 57)
def dgs (s : List UInt8) : Bool := s.all isDg
def dv : List UInt8 → Nat
  | [] => 0
  | c :: s => (c.toNat - 48) * 10 ^ s.length + dv s
def dc (n : Nat) : UInt8 := UInt8.ofNat (48 + n)
def digs (n : Nat) : List UInt8 := if h : n = 0 then [] else digs (n / 10) ++ [dc (n % 10)]
termination_by n
decreasing_by omega
def nd (n : Nat) : Nat := (digs n).length
def noughts (n : Nat) : List UInt8 := List.replicate n 48
def strip (s : List UInt8) : List UInt8 := s.dropWhile (· == 48)
def text (n : Nat) : List UInt8 := if n = 0 then [48] else digs n
def tz (n : Nat) : Nat := if h : n = 0 then 0 else if n % 10 = 0 then tz (n / 10) + 1 else 0
termination_by n
decreasing_by omega
theorem dc_nat {n : Nat} (h : n < 10) : (dc n).toNat = 48 + n := by
  simp only [dc, UInt8.toNat_ofNat']; omega
theorem isDg_dc {n : Nat} (h : n < 10) : isDg (dc n) = true := by
  simp only [isDg, dc_nat h, Bool.and_eq_true, decide_eq_true_eq]; omega
theorem isDg_iff {c : UInt8} : isDg c = true ↔ 48 ≤ c.toNat ∧ c.toNat ≤ 57 := by simp [isDg]
theorem dc_of {c : UInt8} (h : isDg c = true) : dc (c.toNat - 48) = c := by
  have := isDg_iff.1 h
  apply UInt8.toNat_inj.1
  rw [dc_nat (by omega)]; omega
theorem dgs_cons {c : UInt8} {s : List UInt8} : dgs (c :: s) = true ↔ isDg c = true ∧ dgs s = true := by simp [dgs]
theorem dgs_append {a b : List UInt8} : dgs (a ++ b) = true ↔ dgs a = true ∧ dgs b = true := by simp [dgs]
theorem dgs_mem {s : List UInt8} : dgs s = true ↔ ∀ c ∈ s, isDg c = true := by simp [dgs]
theorem dgs_noughts (n : Nat) : dgs (noughts n) = true := by
  rw [dgs_mem]; intro c hc; have := List.eq_of_mem_replicate hc; subst this; decide
theorem dgs_sub {s t : List UInt8} (h : dgs t = true) (hs : ∀ c ∈ s, c ∈ t) : dgs s = true := dgs_mem.2 fun c hc => dgs_mem.1 h c (hs c hc)
theorem dgs_get {s : List UInt8} (h : dgs s = true) {i : Nat} (hi : i < s.length) : isDg (s.getD i 0) = true := by
  rw [List.getD_eq_getElem?_getD, List.getElem?_eq_getElem hi]
  exact dgs_mem.1 h _ (List.getElem_mem hi)
theorem dv_append (a b : List UInt8) : dv (a ++ b) = dv a * 10 ^ b.length + dv b := by
  induction a with
  | nil => simp [dv]
  | cons c a ih =>
    simp only [List.cons_append, dv, ih, List.length_append, Nat.pow_add, Nat.add_mul, Nat.mul_assoc, Nat.add_assoc]
theorem dv_one (c : UInt8) : dv [c] = c.toNat - 48 := by simp [dv]
theorem dv_noughts (n : Nat) : dv (noughts n) = 0 := by
  induction n with
  | zero => rfl
  | succ n ih =>
    have : dv (48 :: noughts n) = 0 := by simp only [dv, ih]; simp
    simpa [noughts, List.replicate_succ] using this
theorem dv_lt {s : List UInt8} (h : dgs s = true) : dv s < 10 ^ s.length := by
  induction s with
  | nil => simp [dv]
  | cons c s ih =>
    obtain ⟨h1, h2⟩ := dgs_cons.1 h
    have h3 := ih h2
    have h4 := isDg_iff.1 h1
    simp only [dv, List.length_cons, Nat.pow_succ]
    have : (c.toNat - 48) * 10 ^ s.length ≤ 9 * 10 ^ s.length := Nat.mul_le_mul_right _ (by omega)
    omega
theorem dv_strip (s : List UInt8) : dv (strip s) = dv s := by
  induction s with
  | nil => rfl
  | cons c s ih =>
    by_cases h : c = 48
    · subst h
      simp only [strip, List.dropWhile_cons, BEq.rfl, if_true]
      refine ih.trans ?_
      simp [dv]
    · simp [strip, List.dropWhile_cons, h]
theorem strip_sub (s : List UInt8) : ∀ c ∈ strip s, c ∈ s := fun c hc => (List.dropWhile_sublist _).subset hc
theorem dgs_strip {s : List UInt8} (h : dgs s = true) : dgs (strip s) = true := dgs_sub h (strip_sub s)
theorem strip_nil : strip [] = [] := rfl
theorem strip_zero (s : List UInt8) : strip (48 :: s) = strip s := by simp [strip]
theorem strip_pos {c : UInt8} (h : c ≠ 48) (s : List UInt8) : strip (c :: s) = c :: s := by simp [strip, List.dropWhile_cons, h]
theorem digs_zero : digs 0 = [] := by rw [digs]; rfl
theorem digs_pos {n : Nat} (h : n ≠ 0) : digs n = digs (n / 10) ++ [dc (n % 10)] := by rw [digs, dif_neg h]
theorem dgs_digs (n : Nat) : dgs (digs n) = true := by
  induction n using Nat.strongRecOn with
  | _ n ih =>
    by_cases h : n = 0
    · subst h; rw [digs_zero]; rfl
    · rw [digs_pos h, dgs_append]
      refine ⟨ih _ (by omega), ?_⟩
      rw [dgs_cons]
      exact ⟨isDg_dc (by omega), rfl⟩
theorem dv_digs (n : Nat) : dv (digs n) = n := by
  induction n using Nat.strongRecOn with
  | _ n ih =>
    by_cases h : n = 0
    · subst h; rw [digs_zero]; rfl
    · rw [digs_pos h, dv_append, ih _ (by omega), dv_one, dc_nat (by omega)]
      simp; omega
theorem digs_nil {n : Nat} : digs n = [] ↔ n = 0 := by
  constructor
  · intro h
    have := dv_digs n
    rw [h] at this
    exact this.symm
  · rintro rfl; exact digs_zero
theorem digs_head (n : Nat) : ∀ c t, digs n = c :: t → c ≠ 48 := by
  induction n using Nat.strongRecOn with
  | _ n ih =>
    intro c t hc
    by_cases h : n = 0
    · subst h; rw [digs_zero] at hc; cases hc
    · rw [digs_pos h] at hc
      by_cases h2 : n / 10 = 0
      · rw [h2, digs_zero] at hc
        simp only [List.nil_append, List.cons.injEq] at hc
        obtain ⟨rfl, _⟩ := hc
        intro e
        have := dc_nat (n := n % 10) (by omega)
        rw [e] at this
        have e48 : (48 : UInt8).toNat = 48 := rfl
        omega
      · have hne : digs (n / 10) ≠ [] := fun e => h2 (digs_nil.1 e)
        obtain ⟨c', t', ht'⟩ := List.exists_cons_of_ne_nil hne
        rw [ht'] at hc
        simp only [List.cons_append, List.cons.injEq] at hc
        obtain ⟨rfl, _⟩ := hc
        exact ih _ (by omega) _ _ ht'
theorem digs_dv {s : List UInt8} (h : dgs s = true) : digs (dv s) = strip s := by
  have key : ∀ (k : Nat) (s : List UInt8), s.length = k → dgs s = true → (∀ c t, s = c :: t → c ≠ 48) → digs (dv s) = s := by
    intro k
    induction k with
    | zero => intro s hs _ _; rw [List.eq_nil_of_length_eq_zero hs]; exact digs_zero
    | succ k ih =>
      intro s hs hd hh
      have hne : s ≠ [] := by intro e; rw [e] at hs; simp at hs
      obtain ⟨t, c, rfl⟩ : ∃ t c, s = t ++ [c] := ⟨s.dropLast, s.getLast hne, (List.dropLast_concat_getLast hne).symm⟩
      obtain ⟨h1, h2⟩ := dgs_append.1 hd
      have hc := (dgs_cons.1 h2).1
      have hci := isDg_iff.1 hc
      have hv : dv (t ++ [c]) = dv t * 10 + (c.toNat - 48) := by rw [dv_append, dv_one]; simp
      have hlen : t.length = k := by simpa using hs
      have ht : digs (dv t) = t := by
        refine ih t hlen h1 fun c' t' e => ?_
        subst e
        exact hh c' (t' ++ [c]) (by simp)
      have hnz : dv (t ++ [c]) ≠ 0 := by
        rw [hv]
        by_cases htn : t = []
        · subst htn
          have := hh c [] (by simp)
          have h5 : c.toNat ≠ 48 := fun e => this (UInt8.toNat_inj.1 (by rw [e]; rfl))
          simp [dv]; omega
        · intro e
          have : dv t = 0 := by omega
          rw [this, digs_zero] at ht
          exact htn ht.symm
      rw [digs_pos hnz, hv, show (dv t * 10 + (c.toNat - 48)) / 10 = dv t by omega, show (dv t * 10 + (c.toNat - 48)) % 10 = c.toNat - 48 by omega, ht, dc_of hc]
  rw [← dv_strip s]
  refine key _ _ rfl (dgs_strip h) fun c t e => ?_
  clear key h
  induction s with
  | nil => cases e
  | cons a s ih =>
    by_cases ha : a = 48
    · subst ha; rw [strip_zero] at e; exact ih e
    · rw [strip_pos ha] at e
      injection e with e1 e2
      rw [← e1]; exact ha
theorem nd_zero : nd 0 = 0 := by rw [nd, digs_zero]; rfl
theorem nd_pos {n : Nat} (h : n ≠ 0) : nd n = nd (n / 10) + 1 := by rw [nd, digs_pos h]; simp [nd]
theorem nd_ne {n : Nat} (h : n ≠ 0) : 0 < nd n := by rw [nd_pos h]; omega
theorem lt_nd (n : Nat) : n < 10 ^ nd n := by
  have := dv_lt (dgs_digs n)
  rwa [dv_digs] at this
theorem le_nd {n : Nat} (h : n ≠ 0) : 10 ^ (nd n - 1) ≤ n := by
  induction n using Nat.strongRecOn with
  | _ n ih =>
    rw [nd_pos h]
    by_cases h2 : n / 10 = 0
    · rw [h2, nd_zero]; simp; omega
    · have h3 := ih (n / 10) (by omega) h2
      have h4 := nd_ne h2
      have h5 : 10 ^ (nd (n / 10) + 1 - 1) = 10 * 10 ^ (nd (n / 10) - 1) := by
        rw [← Nat.pow_succ']; congr 1; omega
      rw [h5]; omega
theorem nd_le {n k : Nat} (h : n < 10 ^ k) : nd n ≤ k := by
  by_cases h0 : n = 0
  · subst h0; rw [nd_zero]; omega
  · refine Classical.not_not.1 fun hn => ?_
    have h1 := le_nd h0
    have h2 : 10 ^ k ≤ 10 ^ (nd n - 1) := Nat.pow_le_pow_right (by decide) (by omega)
    omega
theorem nd_mono {a b : Nat} (h : a ≤ b) : nd a ≤ nd b := nd_le (Nat.lt_of_le_of_lt h (lt_nd b))
theorem digs_mul {n : Nat} (h : n ≠ 0) (k : Nat) : digs (n * 10 ^ k) = digs n ++ noughts k := by
  have hd : dgs (digs n ++ noughts k) = true := dgs_append.2 ⟨dgs_digs n, dgs_noughts k⟩
  have hv : dv (digs n ++ noughts k) = n * 10 ^ k := by
    rw [dv_append, dv_digs, dv_noughts]; simp [noughts]
  rw [← hv, digs_dv hd]
  cases e : digs n with
  | nil => exact absurd (digs_nil.1 e) h
  | cons c t => exact strip_pos (digs_head n c t e) _
theorem nd_mul {n : Nat} (h : n ≠ 0) (k : Nat) : nd (n * 10 ^ k) = nd n + k := by rw [nd, digs_mul h]; simp [nd, noughts]
theorem tz_zero : tz 0 = 0 := by rw [tz]; rfl
theorem tz_of_ne {n : Nat} (h : n % 10 ≠ 0) : tz n = 0 := by
  rw [tz]; split
  · rfl
  · rfl
theorem tz_ten {n : Nat} (h : n ≠ 0) (h2 : n % 10 = 0) : tz n = tz (n / 10) + 1 := by rw [tz, dif_neg h, if_pos h2]
theorem tz_spec {n : Nat} (h : n ≠ 0) : ∃ m, n = m * 10 ^ tz n ∧ m % 10 ≠ 0 := by
  induction n using Nat.strongRecOn with
  | _ n ih =>
    by_cases h2 : n % 10 = 0
    · obtain ⟨m, h3, h4⟩ := ih (n / 10) (by omega) (by omega)
      refine ⟨m, ?_, h4⟩
      rw [tz_ten h h2, Nat.pow_succ, ← Nat.mul_assoc, ← h3]; omega
    · exact ⟨n, by rw [tz_of_ne h2]; simp, h2⟩
theorem tz_mul {m : Nat} (h : m % 10 ≠ 0) (k : Nat) : tz (m * 10 ^ k) = k := by
  induction k with
  | zero => simpa using tz_of_ne h
  | succ k ih =>
    have hm : m * 10 ^ k ≠ 0 := Nat.mul_ne_zero (by omega) (by have := Nat.pow_pos (n := k) (show 0 < 10 by decide); omega)
    have e : m * 10 ^ (k + 1) = m * 10 ^ k * 10 := by rw [Nat.pow_succ, Nat.mul_assoc]
    rw [e, tz_ten (by omega) (by omega), Nat.mul_div_cancel _ (by decide), ih]
def core (n : Nat) : Nat := n / 10 ^ tz n
theorem core_mul (n : Nat) : core n * 10 ^ tz n = n := by
  by_cases h : n = 0
  · subst h; simp [core, tz_zero]
  · obtain ⟨m, h1, h2⟩ := tz_spec h
    have : core n = m := by
      rw [core]
      conv => lhs; rw [h1]
      rw [tz_mul h2]
      exact Nat.mul_div_cancel _ (Nat.pow_pos (by decide))
    rw [this, ← h1]
theorem core_mod {n : Nat} (h : n ≠ 0) : core n % 10 ≠ 0 := by
  obtain ⟨m, h1, h2⟩ := tz_spec h
  have : core n = m := by
    rw [core]
    conv => lhs; rw [h1]
    rw [tz_mul h2]
    exact Nat.mul_div_cancel _ (Nat.pow_pos (by decide))
  rw [this]; exact h2
theorem core_of_mul {m : Nat} (h : m % 10 ≠ 0) (k : Nat) : core (m * 10 ^ k) = m := by
  rw [core, tz_mul h, Nat.mul_div_cancel _ (Nat.pow_pos (by decide))]
theorem digs_core {n : Nat} (h : n ≠ 0) : digs n = digs (core n) ++ noughts (tz n) := by
  have hc : core n ≠ 0 := fun e => by have := core_mod h; rw [e] at this; exact this rfl
  conv => lhs; rw [← core_mul n]
  exact digs_mul hc _
theorem digs_last {n : Nat} (h : n % 10 ≠ 0) : ∃ t c, digs n = t ++ [c] ∧ c ≠ 48 := by
  refine ⟨digs (n / 10), dc (n % 10), digs_pos (by omega), fun e => ?_⟩
  have := dc_nat (n := n % 10) (by omega)
  rw [e] at this
  have e48 : (48 : UInt8).toNat = 48 := rfl
  omega
def rstrip (s : List UInt8) : List UInt8 := (s.reverse.dropWhile (· == 48)).reverse
theorem rstrip_noughts (s : List UInt8) (k : Nat) : rstrip (s ++ noughts k) = rstrip s := by
  induction k with
  | zero => simp [noughts]
  | succ k ih =>
    have : s ++ noughts (k + 1) = (s ++ noughts k) ++ [48] := by simp [noughts, List.replicate_succ']
    rw [this]
    refine Eq.trans ?_ ih
    simp [rstrip]
theorem rstrip_last {c : UInt8} (h : c ≠ 48) (s : List UInt8) : rstrip (s ++ [c]) = s ++ [c] := by simp [rstrip, h]
theorem rstrip_digs {n : Nat} (h : n ≠ 0) : rstrip (digs n) = digs (core n) := by
  rw [digs_core h, rstrip_noughts]
  obtain ⟨t, c, h1, h2⟩ := digs_last (core_mod h)
  rw [h1]; exact rstrip_last h2 t
theorem core_ne {n : Nat} (h : n ≠ 0) : core n ≠ 0 := fun e => by have := core_mod h; rw [e] at this; exact this rfl
theorem core_zero : core 0 = 0 := by simp [core]
theorem text_pos {n : Nat} (h : n ≠ 0) : text n = digs n := by rw [text, if_neg h]
theorem dgs_text (n : Nat) : dgs (text n) = true := by
  unfold text; split
  · rfl
  · exact dgs_digs n
theorem dv_text (n : Nat) : dv (text n) = n := by
  unfold text; split
  · rename_i h; rw [h]; rfl
  · exact dv_digs n
theorem text_ne (n : Nat) : text n ≠ [] := by
  unfold text; split
  · simp
  · rename_i h; exact fun e => h (digs_nil.1 e)
theorem text_len (n : Nat) : (text n).length ≤ nd n + 1 := by
  unfold text; split
  · simp
  · exact Nat.le_succ _
theorem text_eq48 {n : Nat} : text n = [48] ↔ n = 0 := by
  constructor
  · intro h; have := dv_text n; rw [h] at this; exact this.symm
  · rintro rfl; rfl
theorem nd_core {n : Nat} (h : n ≠ 0) : nd n = nd (core n) + tz n := by
  conv => lhs; rw [← core_mul n]
  exact nd_mul (core_ne h) _
theorem tz_le (n : Nat) : tz n ≤ nd n := by
  by_cases h : n = 0
  · subst h; rw [tz_zero]; omega
  · rw [nd_core h]; omega
theorem nd_dv {s : List UInt8} (h : dgs s = true) : nd (dv s) ≤ s.length := nd_le (dv_lt h)
theorem core_core (n : Nat) : core (core n) = core n := by
  by_cases h : n = 0
  · subst h; simp [core_zero]
  · have := core_of_mul (core_mod h) 0
    simpa using this
theorem tz_core {n : Nat} (h : n ≠ 0) : tz (core n) = 0 := tz_of_ne (core_mod h)
def ne (c : Nat) (e : Int) : Int := if c = 0 then 0 else e + tz c
def top (c : Nat) (e : Int) : Int := if c = 0 then 0 else e + nd c - 1
theorem ne_zero (e : Int) : ne 0 e = 0 := rfl
theorem ne_pos {c : Nat} (h : c ≠ 0) (e : Int) : ne c e = e + tz c := if_neg h
theorem ne_core (c : Nat) (e : Int) : ne (core c) (ne c e) = ne c e := by
  by_cases h : c = 0
  · subst h; rw [core_zero]; rfl
  · rw [ne_pos (core_ne h), tz_core h]; simp
theorem core_mul10 {c : Nat} (h : c ≠ 0) (k : Nat) : core (c * 10 ^ k) = core c ∧ tz (c * 10 ^ k) = tz c + k := by
  have e : c * 10 ^ k = core c * 10 ^ (tz c + k) := by
    conv => lhs; rw [← core_mul c]
    rw [Nat.mul_assoc, ← Nat.pow_add]
  exact ⟨by rw [e]; exact core_of_mul (core_mod h) _, by rw [e]; exact tz_mul (core_mod h) _⟩
theorem ne_mul10 {c : Nat} (k : Nat) (e : Int) : ne (c * 10 ^ k) e = ne c (e + k) := by
  by_cases h : c = 0
  · subst h; simp [ne]
  · have h2 : c * 10 ^ k ≠ 0 := Nat.mul_ne_zero h (by have := Nat.pow_pos (n := k) (show 0 < 10 by decide); omega)
    rw [ne_pos h2, ne_pos h, (core_mul10 h k).2]; omega
theorem core_mul10' (c k : Nat) : core (c * 10 ^ k) = core c := by
  by_cases h : c = 0
  · subst h; simp
  · exact (core_mul10 h k).1
theorem top_core (c : Nat) (e : Int) : top (core c) (ne c e) = top c e := by
  by_cases h : c = 0
  · subst h; rw [core_zero]; rfl
  · rw [top, if_neg (core_ne h), top, if_neg h, ne_pos h, nd_core h]; omega
end Go.Proofs.YtgehlcgjchfibaaGreatDoor.F
namespace Go.Proofs.YtgehlcgjchfibaaGreatDoor.F
structure Pat where
  pre : List (Int × Int)
  suf : List (Int × Int)
  hasNeg : Bool
  npre : List (Int × Int)
  nsuf : List (Int × Int)
  minInt : Nat
  maxInt : Nat
  minFrac : Nat
  maxFrac : Nat
  minSig : Nat
  maxSig : Nat
  prim : Nat
  sec : Nat
  inc : List UInt8
  sci : Bool
  minExp : Nat
  plusExp : Bool
  padAt : Nat
  pad : Int
  width : Nat
  deriving DecidableEq
def Pat.zero : Pat := ⟨[], [], false, [], [], 0, 0, 0, 0, 0, 0, 0, 0, [], false, 0, false, 0, 0, 0⟩
def Pat.has (p : Pat) (k : Int) : Bool := (p.pre ++ p.suf ++ p.npre ++ p.nsuf).any fun x => x.1 == k
def scalarS (r : Int) : Bool := decide (0 ≤ r) && decide (r ≤ 1114111) && (decide (r < 55296) || decide (r > 57343))
def bytesS (n : Nat) : List UInt8 :=
  if n < 128 then [UInt8.ofNat n]
  else if n < 2048 then [UInt8.ofNat (192 + n / 64), UInt8.ofNat (128 + n % 64)]
  else if n < 65536 then [UInt8.ofNat (224 + n / 4096), UInt8.ofNat (128 + n / 64 % 64), UInt8.ofNat (128 + n % 64)]
  else [UInt8.ofNat (240 + n / 262144), UInt8.ofNat (128 + n / 4096 % 64), UInt8.ofNat (128 + n / 64 % 64), UInt8.ofNat (128 + n % 64)]
def contS (s : List UInt8) : Nat → Nat → Int → Option Int
  | 0, _, n => some n
  | f + 1, i, n => if (s.getD i 0).toNat < 128 ∨ 191 < (s.getD i 0).toNat then none else contS s f (i + 1) (n * 64 + (s.getD i 0).toNat - 128)
def leadS (c : Nat) : Option (Nat × Nat) :=
  if c < 128 then some (c, 1) else if 192 ≤ c ∧ c < 224 then some (c - 192, 2) else if 224 ≤ c ∧ c < 240 then some (c - 224, 3) else if 240 ≤ c ∧ c < 248 then some (c - 240, 4) else none
def firstS (s : List UInt8) : Int × Nat :=
  match s with
  | [] => (0, 0)
  | c :: _ => match leadS c.toNat with
    | none => (0, 0)
    | some (n, k) => if s.length < k then (0, 0) else match contS s (k - 1) 1 n with
      | none => (0, 0)
      | some n => if scalarS n = false then (0, 0) else if bytesS n.toNat ≠ s.take k then (0, 0) else (n, k)
def badS (s : List UInt8) : Option Nat := if h : s = [] then none else if h2 : (firstS s).2 = 0 then some 0 else (badS (s.drop (firstS s).2)).map (· + (firstS s).2)
termination_by s.length
decreasing_by
  have : 0 < s.length := List.length_pos_iff.2 h
  rw [List.length_drop]; omega
def runesS (s : List UInt8) : List Int := if h : s = [] then [] else if h2 : (firstS s).2 = 0 then [] else (firstS s).1 :: runesS (s.drop (firstS s).2)
termination_by s.length
decreasing_by
  have : 0 < s.length := List.length_pos_iff.2 h
  rw [List.length_drop]; omega
structure Tok where
  r : Int
  q : Bool
  at_ : Nat
  deriving DecidableEq
structure Flt where
  e : Int
  at_ : Int
  deriving DecidableEq
def scanS (s : List UInt8) (pos : Nat) (op : Int) : Int × List Tok :=
  if h : s = [] then (op, [])
  else if h2 : (firstS s).2 = 0 then (op, [])
  else if (firstS s).1 = 39 ∧ 2 ≤ s.length ∧ s.getD 1 0 = 39 then
    let x := scanS (s.drop 2) (pos + 2) op
    (x.1, ⟨39, true, pos⟩ :: x.2)
  else if (firstS s).1 = 39 then scanS (s.drop (firstS s).2) (pos + (firstS s).2) (if 0 ≤ op then -1 else pos)
  else
    let x := scanS (s.drop (firstS s).2) (pos + (firstS s).2) op
    (x.1, ⟨(firstS s).1, decide (0 ≤ op), pos⟩ :: x.2)
termination_by s.length
decreasing_by
  all_goals
    have : 0 < s.length := List.length_pos_iff.2 h
    rw [List.length_drop]; omega
def scanT (s : List UInt8) : Except Flt (List Tok) :=
  match badS s with
  | some b => .error ⟨2, b⟩
  | none =>
    let x := scanS s 0 (-1)
    if 0 ≤ x.1 then .error ⟨3, x.1⟩ else if 400 < x.2.length then .error ⟨8, 0⟩ else .ok x.2
def signS (r : Int) : Int := if r = 45 then 2 else if r = 43 then 3 else if r = 37 then 4 else if r = 8240 then 5 else if r = 164 then 6 else 0
def markS (r : Int) : Bool := (decide (48 ≤ r) && decide (r ≤ 57)) || r == 35 || r == 64 || r == 44 || r == 46 || r == 59 || r == 42
def itemsS : List Tok → Except Flt (List (Int × Int))
  | [] => .ok []
  | t :: l =>
    if t.q = false ∧ markS t.r = true then .error ⟨4, t.at_⟩
    else match itemsS l with
      | .error f => .error f
      | .ok xs => .ok ((if t.q = false ∧ 0 < signS t.r then (signS t.r, 0) else (1, t.r)) :: xs)
def itemsT (l : List Tok) : Except Flt (List (Int × Int)) :=
  match itemsS l with
  | .error f => .error f
  | .ok xs => if 40 < xs.length then .error ⟨8, 0⟩ else .ok xs
def cutS (s : List UInt8) (c : UInt8) : List UInt8 × List UInt8 × Bool :=
  match s with
  | [] => ([], [], false)
  | x :: t => if x = c then ([], t, true) else
    let y := cutS t c
    (x :: y.1, y.2.1, y.2.2)
def isC (c x : UInt8) : Bool := x == c || (c == 48 && isDg x)
def countS (s : List UInt8) (c : UInt8) : Nat := (s.filter (isC c)).length
def rowsS : List UInt8 → List UInt8 → Bool
  | [], _ => true
  | _ :: _, [] => false
  | x :: s, c :: cs => if isC c x = true then rowsS s (c :: cs) else rowsS (x :: s) cs
termination_by s cs => s.length + cs.length
def okCh (c : UInt8) : Bool := c == 35 || c == 64 || c == 44 || c == 46 || isDg c
def sizesS : List UInt8 → Nat → List Nat
  | [], n => [n]
  | c :: s, n => if c = 44 then n :: sizesS s 0 else sizesS s (n + 1)
def plainS (s : List UInt8) : List UInt8 := s.filter (· != 44)
def longN (p : Pat) : Except Int Pat := if 40 < p.minInt ∨ 40 < p.maxInt ∨ 40 < p.maxFrac ∨ 40 < p.maxSig ∨ 40 < p.prim ∨ 40 < p.sec ∨ 40 < p.inc.length then .error 8 else .ok p
def mixN (p : Pat) (sizes : List Nat) (plain : List UInt8) : Except Int Pat :=
  if p.sci = true ∧ (1 < sizes.length ∨ (0 < p.minSig ∧ plain.headD 0 = 35)) then .error 6 else longN p
def incN (s : List UInt8) : List UInt8 := s.filter (· != 35)
def aftN (p : Pat) (sizes : List Nat) (plain digits : List UInt8) : Except Int Pat :=
  if strip digits ≠ [] ∧ (p.minFrac < p.maxFrac ∨ p.sci = true) then .error 6
  else mixN { p with inc := strip digits, maxInt := if p.sci = true then plain.length else p.maxInt } sizes plain
def tagN (s : List UInt8) : List UInt8 := s.dropWhile (· == 35)
def choN (p : Pat) (sizes : List Nat) (plain fraction all : List UInt8) (point : Bool) : Except Int Pat :=
  if 0 < countS all 64 then
    if point = true ∨ 0 < countS plain 48 then .error 6
    else if rowsS plain [35, 64, 35] = false then .error 4 else mixN { p with minSig := countS plain 64, maxSig := (tagN plain).length } sizes plain
  else if rowsS plain [35, 48, 48] = false ∨ rowsS fraction [48, 35, 35] = false then .error 4
  else aftN { p with minInt := countS plain 48, minFrac := countS fraction 48, maxFrac := fraction.length } sizes plain (incN all)
def allN (p : Pat) (sizes : List Nat) (plain fraction : List UInt8) (point : Bool) : Except Int Pat :=
  if plain ++ fraction = [] then .error 4 else choN p sizes plain fraction (plain ++ fraction) point
def sizN (p : Pat) (sizes : List Nat) (plain fraction : List UInt8) (point : Bool) : Except Int Pat :=
  if 1 < sizes.length ∧ 0 ∈ sizes then .error 5
  else allN { p with prim := if 1 < sizes.length then sizes.getD (sizes.length - 1) 0 else 0, sec := if 2 < sizes.length then sizes.getD (sizes.length - 2) 0 else if 1 < sizes.length then sizes.getD (sizes.length - 1) 0 else 0 } sizes plain fraction point
def fraN (p : Pat) (whole fraction : List UInt8) (point : Bool) : Except Int Pat :=
  if 0 < countS fraction 46 ∨ (point = true ∧ fraction = []) then .error 4
  else if 0 < countS fraction 44 then .error 5
  else sizN p (sizesS whole 0) (plainS whole) fraction point
def bodN (p : Pat) (body : List UInt8) : Except Int Pat :=
  if body.all okCh = false then .error 4 else fraN p (cutS body 46).1 (cutS body 46).2.1 (cutS body 46).2.2
def ex3N (plus : Bool) (ex body : List UInt8) : Except Int Pat :=
  if ex = [] ∨ strip ex ≠ [] then .error 4 else if 9 < ex.length then .error 8 else bodN { Pat.zero with plusExp := plus, sci := true, minExp := ex.length } body
def numN (s : List UInt8) : Except Int Pat :=
  if (cutS s 69).2.2 = true then
    if (cutS s 69).2.1.headD 0 = 43 then ex3N true ((cutS s 69).2.1.drop 1) (cutS s 69).1 else ex3N false (cutS s 69).2.1 (cutS s 69).1
  else bodN Pat.zero (cutS s 69).1
def numberS (s : List UInt8) : Except Int Pat := numN s
structure El where
  t : Tok
  pad : Bool
  deriving DecidableEq
def El.body (e : El) : Bool := !e.pad && !e.t.q && markS e.t.r && e.t.r != 59 && e.t.r != 42
def El.plain (e : El) (r : Int) : Bool := !e.pad && !e.t.q && e.t.r == r
def beginS (l : List El) : Nat := (l.takeWhile fun e => !e.body).length
def runS (l : List El) (n : Nat) : Nat := n + ((l.drop n).takeWhile El.body).length
def plainAt (l : List El) (n : Nat) (r : Int) : Bool := match l[n]? with | some e => e.plain r | none => false
def endS (l : List El) (n : Nat) : Nat :=
  let m := runS l n
  if plainAt l m 69 = true then runS l (if plainAt l (m + 1) 43 = true then m + 2 else m + 1) else m
def placeS (i n fin len : Nat) : Nat := if i = 0 then 1 else if i + 1 = n then 2 else if i = fin then 3 else if i + 1 = len then 4 else 0
def padS (first : Bool) (n fin len : Nat) : List El → Nat → Nat → Nat × Int → Except Flt (Nat × Int)
  | [], _, _, h => .ok h
  | e :: l, i, pads, h =>
    if e.pad = false then padS first n fin len l (i + 1) pads h
    else if placeS i n fin len = 0 ∨ 0 < pads ∨ first = false then .error ⟨7, e.t.at_⟩
    else padS first n fin len l (i + 1) (pads + 1) (placeS i n fin len, e.t.r)
def toksS (l : List El) : List Tok := (l.filter fun e => !e.pad).map (·.t)
def textS (l : List El) : List UInt8 := (toksS l).flatMap fun t => bytesS t.r.toNat
structure Hlf where
  pre : List (Int × Int)
  suf : List (Int × Int)
  p : Pat
  at_ : Nat
  pad : Int
  long : Nat
def halfS (l : List El) (begin_ : Int) (first : Bool) : Except Flt Hlf :=
  let n := beginS l
  if n = l.length then .error ⟨4, begin_⟩ else
  let fin := endS l n
  match padS first n fin l.length l 0 0 (0, 0) with
  | .error f => .error f
  | .ok h =>
    match itemsT (toksS (l.take n)) with
    | .error f => .error f
    | .ok x =>
      let s := textS ((l.take fin).drop n)
      match numberS s with
      | .error e => .error ⟨e, ((l[n]?).map fun e => (e.t.at_ : Int)).getD 0⟩
      | .ok p =>
        match itemsT (toksS (l.drop fin)) with
        | .error f => .error f
        | .ok y => .ok ⟨x, y, p, h.1, h.2, s.length⟩
def elemsS : List Tok → Except Flt (List El)
  | [] => .ok []
  | t :: l =>
    if t.q = false ∧ t.r = 42 then
      match l with
      | [] => .error ⟨7, t.at_⟩
      | t2 :: l2 => match elemsS l2 with
        | .error f => .error f
        | .ok es => .ok (⟨⟨t2.r, t.q, t.at_⟩, true⟩ :: es)
    else match elemsS l with
      | .error f => .error f
      | .ok es => .ok (⟨t, false⟩ :: es)
def semiS : List El → Nat → Option Nat → Except Flt (Option Nat)
  | [], _, o => .ok o
  | e :: l, i, o => if e.plain 59 = true then (match o with | some _ => .error ⟨4, e.t.at_⟩ | none => semiS l (i + 1) (some i)) else semiS l (i + 1) o
def compileS (s : List UInt8) : Except Flt Pat :=
  match scanT s with
  | .error f => .error f
  | .ok l =>
    match elemsS l with
    | .error f => .error f
    | .ok all =>
      match semiS all 0 none with
      | .error f => .error f
      | .ok semi =>
        match halfS (match semi with | some k => all.take k | none => all) 0 true with
        | .error f => .error f
        | .ok a =>
          let p : Pat := { a.p with pre := a.pre, suf := a.suf, padAt := a.at_, pad := a.pad, width := if 0 < a.at_ then a.pre.length + a.suf.length + a.long else 0, npre := (2, 0) :: a.pre, nsuf := a.suf }
          let r : Except Flt Pat := match semi with
            | none => .ok p
            | some k => match halfS (all.drop (k + 1)) (((all[k]?).map fun e => (e.t.at_ : Int)).getD 0 + 1) false with
              | .error f => .error f
              | .ok b => .ok { p with hasNeg := true, npre := b.pre, nsuf := b.suf }
          match r with
          | .error f => .error f
          | .ok p => if p.has 4 = true ∧ p.has 5 = true then .error ⟨6, 0⟩ else .ok p
end Go.Proofs.YtgehlcgjchfibaaGreatDoor.F
namespace Go.Proofs.YtgehlcgjchfibaaGreatDoor.F
structure NumOk (p : Pat) : Prop where
  cnt : p.minInt ≤ 40 ∧ p.maxInt ≤ 40 ∧ p.minFrac ≤ p.maxFrac ∧ p.maxFrac ≤ 40 ∧ p.minSig ≤ p.maxSig ∧ p.maxSig ≤ 40
  inc : dgs p.inc = true ∧ p.inc.length ≤ 40 ∧ (p.inc ≠ [] → dv p.inc ≠ 0)
  step : p.inc ≠ [] → p.minFrac = p.maxFrac ∧ p.sci = false
  sig : 0 < p.minSig → p.minInt = 0 ∧ p.maxFrac = 0 ∧ p.maxInt = 0 ∧ p.inc = []
  whole : p.sci = false → p.maxInt = 0
  items : p.pre = [] ∧ p.suf = [] ∧ p.npre = [] ∧ p.nsuf = []
theorem longN_ok {p q : Pat} (h : longN p = .ok q) : q = p ∧ p.minInt ≤ 40 ∧ p.maxInt ≤ 40 ∧ p.maxFrac ≤ 40 ∧ p.maxSig ≤ 40 ∧ p.inc.length ≤ 40 := by
  unfold longN at h
  split at h
  · cases h
  · injection h with h
    exact ⟨h.symm, by omega, by omega, by omega, by omega, by omega⟩
theorem mixN_ok {p q : Pat} {sizes : List Nat} {plain : List UInt8} (h : mixN p sizes plain = .ok q) : q = p ∧ p.minInt ≤ 40 ∧ p.maxInt ≤ 40 ∧ p.maxFrac ≤ 40 ∧ p.maxSig ≤ 40 ∧ p.inc.length ≤ 40 := by
  unfold mixN at h
  split at h
  · cases h
  · exact longN_ok h
theorem countS_le (s : List UInt8) (c : UInt8) : countS s c ≤ s.length := List.length_filter_le _ _
theorem countS_zero {s : List UInt8} {c : UInt8} (h : ¬ 0 < countS s c) : ∀ x ∈ s, (x == c) = false := by
  intro x hx
  have h0 : s.filter (isC c) = [] := List.eq_nil_of_length_eq_zero (by unfold countS at h; omega)
  have := List.filter_eq_nil_iff.1 h0 x hx
  cases h1 : (x == c) with
  | false => rfl
  | true => exact absurd (by simp [isC, h1]) this
theorem tagN_count (s : List UInt8) : countS s 64 ≤ (tagN s).length := by
  induction s with
  | nil => simp [countS]
  | cons x t ih =>
    unfold tagN at ih ⊢
    rw [List.dropWhile_cons]
    by_cases h : x = 35
    · subst h
      rw [if_pos (by rfl)]
      have : countS (35 :: t) 64 = countS t 64 := by
        unfold countS
        rw [List.filter_cons, if_neg (by decide)]
      omega
    · rw [if_neg (by simpa using h)]
      exact countS_le _ _
theorem cut_mem (s : List UInt8) (c : UInt8) : (∀ x ∈ (cutS s c).1, x ∈ s ∧ x ≠ c) ∧ ∀ x ∈ (cutS s c).2.1, x ∈ s := by
  induction s with
  | nil => simp [cutS]
  | cons y t ih =>
    rw [cutS]
    split
    · exact ⟨by simp, fun x hx => by simp only at hx; exact List.mem_cons_of_mem _ hx⟩
    · rename_i hne
      refine ⟨fun x hx => ?_, fun x hx => List.mem_cons_of_mem _ (ih.2 x hx)⟩
      simp only [List.mem_cons] at hx ⊢
      rcases hx with rfl | hx
      · exact ⟨.inl rfl, hne⟩
      · exact ⟨.inr (ih.1 x hx).1, (ih.1 x hx).2⟩
theorem dv_strip_ne {d : List UInt8} (h : dgs d = true) (h2 : strip d ≠ []) : dv (strip d) ≠ 0 := by
  intro h0
  rw [dv_strip] at h0
  have := digs_dv h
  rw [h0, digs_zero] at this
  exact h2 this.symm
theorem choN_ok {p q : Pat} {sizes : List Nat} {plain fraction : List UInt8} {point : Bool} (hall : ∀ x ∈ plain ++ fraction, okCh x = true ∧ x ≠ 46 ∧ x ≠ 44)
    (hp : p.minInt = 0 ∧ p.maxInt = 0 ∧ p.minFrac = 0 ∧ p.maxFrac = 0 ∧ p.minSig = 0 ∧ p.maxSig = 0 ∧ p.inc = [] ∧ p.pre = [] ∧ p.suf = [] ∧ p.npre = [] ∧ p.nsuf = [])
    (h : choN p sizes plain fraction (plain ++ fraction) point = .ok q) : NumOk q := by
  obtain ⟨h1, h2, h3, h4, h5, h6, h7, h8, h9, h10, h11⟩ := hp
  unfold choN at h
  split at h
  · split at h
    · cases h
    · split at h
      · cases h
      · obtain ⟨rfl, b1, b2, b3, b4, b5⟩ := mixN_ok h
        have := tagN_count plain
        simp only at b1 b2 b3 b4 b5
        exact ⟨by simp only; omega, by simp only [h7]; exact ⟨rfl, by simp, fun h => absurd rfl h⟩, by simp only [h7]; intro h; exact absurd rfl h, fun _ => ⟨h1, h4, h2, h7⟩, fun _ => h2, h8, h9, h10, h11⟩
  · rename_i h64
    split at h
    · cases h
    · unfold aftN at h
      split at h
      · cases h
      · rename_i hinc
        obtain ⟨rfl, b1, b2, b3, b4, b5⟩ := mixN_ok h
        simp only at b1 b2 b3 b4 b5 hinc
        have hd : dgs (incN (plain ++ fraction)) = true := by
          rw [dgs_mem]
          intro x hx
          unfold incN at hx
          obtain ⟨hx1, hx2⟩ := List.mem_filter.1 hx
          obtain ⟨c1, c2, c3⟩ := hall x hx1
          have c4 := countS_zero h64 x hx1
          unfold okCh at c1
          have e1 : (x == 35) = false := by simpa using hx2
          have e2 : (x == 44) = false := beq_eq_false_iff_ne.2 c3
          have e3 : (x == 46) = false := beq_eq_false_iff_ne.2 c2
          rw [e1, c4, e2, e3] at c1
          simpa using c1
        have hf := countS_le fraction 48
        refine ⟨by simp only; omega, ⟨by simp only; exact dgs_strip hd, b5, by simp only; exact fun h => dv_strip_ne hd h⟩, ?_, ?_, ?_, h8, h9, h10, h11⟩
        · simp only
          intro hne
          refine ⟨?_, ?_⟩
          · refine Classical.not_not.1 fun hh => hinc ⟨hne, .inl (by omega)⟩
          · cases hs : p.sci with
            | false => rfl
            | true => exact absurd ⟨hne, .inr hs⟩ hinc
        · simp only
          intro hh; omega
        · simp only
          intro hh
          rw [if_neg (by rw [hh]; simp)]
          exact h2
theorem bodN_ok {p q : Pat} {body : List UInt8}
    (hp : p.minInt = 0 ∧ p.maxInt = 0 ∧ p.minFrac = 0 ∧ p.maxFrac = 0 ∧ p.minSig = 0 ∧ p.maxSig = 0 ∧ p.inc = [] ∧ p.pre = [] ∧ p.suf = [] ∧ p.npre = [] ∧ p.nsuf = [])
    (h : bodN p body = .ok q) : NumOk q := by
  unfold bodN at h
  split at h
  · cases h
  · rename_i hb
    have hb : body.all okCh = true := by simpa using hb
    unfold fraN at h
    split at h
    · cases h
    · rename_i h46
      split at h
      · cases h
      · rename_i h44
        unfold sizN at h
        split at h
        · cases h
        · unfold allN at h
          split at h
          · cases h
          · have hc := cut_mem body 46
            refine choN_ok (fun x hx => ?_) ?_ h
            · rcases List.mem_append.1 hx with hx | hx
              · unfold plainS at hx
                obtain ⟨hx1, hx2⟩ := List.mem_filter.1 hx
                obtain ⟨m1, m2⟩ := hc.1 x hx1
                exact ⟨List.all_eq_true.1 hb x m1, m2, by simpa using hx2⟩
              · have m1 := hc.2 x hx
                have z1 := countS_zero (fun h => h46 (.inl h)) x hx
                have z2 := countS_zero h44 x hx
                exact ⟨List.all_eq_true.1 hb x m1, by simpa using z1, by simpa using z2⟩
            · exact hp
theorem numberS_ok {s : List UInt8} {q : Pat} (h : numberS s = .ok q) : NumOk q := by
  unfold numberS numN at h
  split at h
  · split at h
    · unfold ex3N at h
      split at h
      · cases h
      · split at h
        · cases h
        · exact bodN_ok ⟨rfl, rfl, rfl, rfl, rfl, rfl, rfl, rfl, rfl, rfl, rfl⟩ h
    · unfold ex3N at h
      split at h
      · cases h
      · split at h
        · cases h
        · exact bodN_ok ⟨rfl, rfl, rfl, rfl, rfl, rfl, rfl, rfl, rfl, rfl, rfl⟩ h
  · exact bodN_ok ⟨rfl, rfl, rfl, rfl, rfl, rfl, rfl, rfl, rfl, rfl, rfl⟩ h
end Go.Proofs.YtgehlcgjchfibaaGreatDoor.F
namespace Go.Proofs.YtgehlcgjchfibaaGreatDoor.F
structure CmpOk (p : Pat) : Prop where
  cnt : p.minInt ≤ 40 ∧ p.maxInt ≤ 40 ∧ p.minFrac ≤ p.maxFrac ∧ p.maxFrac ≤ 40 ∧ p.minSig ≤ p.maxSig ∧ p.maxSig ≤ 40
  inc : dgs p.inc = true ∧ p.inc.length ≤ 40 ∧ (p.inc ≠ [] → dv p.inc ≠ 0)
  step : p.inc ≠ [] → p.minFrac = p.maxFrac ∧ p.sci = false
  sig : 0 < p.minSig → p.minInt = 0 ∧ p.maxFrac = 0 ∧ p.maxInt = 0 ∧ p.inc = []
  whole : p.sci = false → p.maxInt = 0
  lens : (p.pre ++ p.suf ++ p.npre ++ p.nsuf).length < 1000
theorem itemsT_ok {l : List Tok} {xs : List (Int × Int)} (h : itemsT l = .ok xs) : xs.length ≤ 40 := by
  unfold itemsT at h
  split at h
  · cases h
  · split at h
    · cases h
    · injection h with h
      subst h; omega
theorem halfS_ok {l : List El} {b : Int} {first : Bool} {a : Hlf} (h : halfS l b first = .ok a) : NumOk a.p ∧ a.pre.length ≤ 40 ∧ a.suf.length ≤ 40 := by
  unfold halfS at h
  simp only at h
  split at h
  · cases h
  · split at h
    · cases h
    · split at h
      · cases h
      · rename_i x hx
        split at h
        · cases h
        · rename_i p hp
          split at h
          · cases h
          · rename_i y hy
            injection h with h
            subst h
            exact ⟨numberS_ok hp, itemsT_ok hx, itemsT_ok hy⟩
theorem ite_ok {α β : Type} {c : Prop} [Decidable c] {e : α} {x y : β} (h : (if c then Except.error e else Except.ok x) = Except.ok y) : x = y := by
  by_cases hc : c
  · rw [if_pos hc] at h; cases h
  · rw [if_neg hc] at h; injection h
theorem compileS_ok {s : List UInt8} {p : Pat} (h : compileS s = .ok p) : CmpOk p := by
  unfold compileS at h
  split at h
  · cases h
  · split at h
    · cases h
    · rename_i es hes
      split at h
      · cases h
      · rename_i semi hsemi
        split at h
        · cases h
        · rename_i a ha
          obtain ⟨hn, hp, hs⟩ := halfS_ok ha
          simp only at h
          cases semi with
          | none =>
            simp only at h
            have h := ite_ok h
            subst h
            exact ⟨hn.cnt, hn.inc, hn.step, hn.sig, hn.whole, by simp; omega⟩
          | some k =>
            simp only at h
            cases hb : halfS (es.drop (k + 1)) (((es[k]?).map fun e => (e.t.at_ : Int)).getD 0 + 1) false with
            | error f =>
              rw [hb] at h
              simp at h
            | ok b =>
              obtain ⟨hn2, hp2, hs2⟩ := halfS_ok hb
              rw [hb] at h
              simp only at h
              have h := ite_ok h
              subst h
              exact ⟨hn.cnt, hn.inc, hn.step, hn.sig, hn.whole, by simp; omega⟩
end Go.Proofs.YtgehlcgjchfibaaGreatDoor.F
namespace Go.Proofs.YtgehlcgjchfibaaGreatDoor.F
open Go Go.RowKit Go.Proofs
abbrev zM (d s : Nat) : IOper := ⟨some d, .mv (.t s), none, .any⟩
abbrev zA (d : Nat) (x : IOp) : IOper := ⟨some d, x, none, .any⟩
abbrev zT (g d : Nat) (x : IOp) : IOper := ⟨some d, x, some (g, true), .any⟩
abbrev zF (g d : Nat) (x : IOp) : IOper := ⟨some d, x, some (g, false), .any⟩
abbrev zU (x : IOp) : IOper := ⟨none, x, none, .any⟩
abbrev zI (d : Nat) (n : Int) : IOper := ⟨some d, .mv (.c (.int .i64 n)), none, .any⟩
abbrev zL (d s : Nat) : IOper := ⟨some d, .ld none (.t s), none, .any⟩
abbrev zK (d k s : Nat) : IOper := ⟨some d, .ld (some k) (.t s), none, .any⟩
abbrev zG (d k s : Nat) : IOper := ⟨some d, .fa k none (.t s), none, .any⟩
abbrev zE (d s k : Nat) : IOper := ⟨some d, .ext (.t s) k, none, .any⟩
abbrev zS (n a b : Nat) : IOper := ⟨none, .st n (.t a) (.t b), none, .any⟩
abbrev zC (d f a : Nat) : IOper := ⟨some d, .call f [(.t a, none)], none, .any⟩
abbrev zY (d f a b : Nat) : IOper := ⟨some d, .call f [(.t a, none), (.t b, none)], none, .any⟩
noncomputable def ic130_1 : IC := (.reg [zA 22 (.bin .add none (.t 11) (.c (.int .i64 1))),zM 11 22] false [0,3,9,10,11] [])
noncomputable def ic130_2 : IC := (.seq (.block 1 (.seq (.reg [zA 13 (.ia 1 (.t 9) (.t 11)),zL 14 13,zM 5 14] false [0,3,5,9,10,11] []) (.seq (.reg [zM 15 3,zM 16 5,zA 17 (.len false (.t 16)),zA 18 (.bin .add none (.t 15) (.t 17)),zM 3 18] false [0,3,9,10,11] []) (.seq (.reg [zM 19 3,zA 20 (.bin .lss none (.t 19) (.c (.int .i64 0)))] false [0,3,9,10,11,20] []) (.cond (.t 20) (.reg [⟨(some 21),(.raw (opOf Tryz.f130 7 0)),none,(.at 130 7 0)⟩,⟨none,(.raw (opOf Tryz.f130 7 1)),none,(.at 130 7 1)⟩] false [0,3,9,10,11] []) .skip))))) ic130_1)
noncomputable def ic130_3 : IC := (.seq (.reg [zA 12 (.bin .lss none (.t 11) (.t 10))] false [0,3,9,10,11,12] []) (.seq (.cond (.t 12) .skip (.exit 0)) ic130_2))
noncomputable def ic130_4 : IC := (.seq (.block 3 (.seq (.reg [zA 29 (.ia 1 (.t 25) (.t 27)),zL 30 29,zM 8 30] false [6,8,25,26,27] [33]) (.reg [zM 31 6,zM 32 8,zA 33 (.app 80 2 16 (.t 31) (.t 32)),zM 6 33] false [6,25,26,27] [33]))) (.reg [zA 34 (.bin .add none (.t 27) (.c (.int .i64 1))),zM 27 34] false [6,25,26,27] [33]))
noncomputable def ic130_5 : IC := (.seq (.reg [zA 28 (.bin .lss none (.t 27) (.t 26))] false [6,25,26,27,28] [33]) (.seq (.cond (.t 28) .skip (.exit 2)) ic130_4))
noncomputable def ic130_6 : IC := (.seq (.reg [zM 35 6,zM 2 35] false [2] [33]) .ret)
noncomputable def ic130_7 : IC := (.seq (.reg [zM 23 3,⟨(some 24),(.raw (opOf Tryz.f130 9 1)),none,(.at 130 9 1)⟩,zM 6 24] false [0,6] [33]) (.seq (.seq (.reg [zM 25 0,zA 26 (.len false (.t 25)),zI 27 0] false [6,25,26,27] [33]) (.block 2 (.loop ic130_5))) ic130_6))
noncomputable def ic130 : IC := (.seq (.reg [zA 2 (.mv (.c .nil))] false [0] []) (.seq (.reg [zI 3 0] false [0,3] []) (.seq (.seq (.reg [zM 9 0,zA 10 (.len false (.t 9)),zI 11 0] false [0,3,9,10,11] []) (.block 0 (.loop ic130_3))) ic130_7)))
def kp130 : List (Nat × Keep) := [(0, ⟨[0], [], []⟩),
  (1, ⟨[0, 3], [], []⟩),
  (2, ⟨[0, 3, 9, 10, 11], [], []⟩),
  (3, ⟨[0, 3, 9, 10, 11, 12], [], []⟩),
  (4, ⟨[0, 3, 5, 9, 10, 11], [], []⟩),
  (5, ⟨[0, 3, 9, 10, 11], [], []⟩),
  (6, ⟨[0, 3, 9, 10, 11, 20], [], []⟩),
  (7, ⟨[0, 3, 9, 10, 11], [], [(0, .at 130 7 0), (1, .at 130 7 1)]⟩),
  (8, ⟨[0, 3, 9, 10, 11], [], []⟩),
  (9, ⟨[0, 6], [33], [(1, .at 130 9 1)]⟩),
  (10, ⟨[6, 25, 26, 27], [33], []⟩),
  (11, ⟨[6, 25, 26, 27, 28], [33], []⟩),
  (12, ⟨[6, 8, 25, 26, 27], [33], []⟩),
  (13, ⟨[6, 25, 26, 27], [33], []⟩),
  (14, ⟨[6, 25, 26, 27], [33], []⟩),
  (15, ⟨[2], [33], []⟩)]
theorem c130 : (Tryz.f130.body.bind fun c => compC Tryz.prog 36 [2000146] kp130 c) = some ic130 := by kernel_rfl
theorem e130 {args : List AV} {r : AV} (ha : args.length ≤ 36) (h : VC e0 ic130 (retQ [(2, none)] r) ⟨argT 0 args, []⟩) : Fn 130 args r := fn_of Tryz.func130 rfl (by kernel_rfl) c130 ha (by decide) h
def ic38 : IC := (.seq (.reg [zA 2 (.mv (.c (.bool false)))] false [0] []) (.seq (.reg [zM 3 0,zA 4 (.bin .geq none (.t 3) (.c (.int .i64 0))),zM 5 4,zT 5 6 (.mv (.t 0)),zT 5 7 (.bin .lss none (.t 6) (.c (.int .i64 8))),zA 8 (.pick (.t 5) (.t 7) (.c (.bool false))),zM 2 8] false [2] []) .ret))
def kp38 : List (Nat × Keep) := [(0, ⟨[0], [], []⟩),
  (1, ⟨[2], [], []⟩)]
theorem c38 : (Tryz.f38.body.bind fun c => compC Tryz.prog 9 [] kp38 c) = some ic38 := by kernel_rfl
theorem e38 {args : List AV} {r : AV} (ha : args.length ≤ 9) (h : VC e0 ic38 (retQ [(2, none)] r) ⟨argT 0 args, []⟩) : Fn 38 args r := fn_of Tryz.func38 rfl (by kernel_rfl) c38 ha (by decide) h
def ic39_1 : IC := (.seq (.reg [zG 20 1 1,zL 21 20,zC 22 64 21,zM 19 22,zE 23 19 0,zE 24 19 1,zM 3 23,zM 4 24] false [4] []) (.seq (.reg [zM 25 4,zM 2 25] false [2] []) .ret))
def ic39 : IC := (.seq (.reg [zA 1 (.box 23 (.t 0)),zA 2 (.mv (.c (.bool false)))] false [1] [1]) (.seq (.seq (.reg [zG 5 1 1,zL 6 5,zA 7 (.len true (.t 6)),zA 8 (.bin .gtr none (.t 7) (.c (.int .i64 1000))),zM 9 8,zF 9 10 (.fa 2 none (.t 1)),zF 9 11 (.ld none (.t 10)),zF 9 12 (.bin .lss none (.t 11) (.c (.int .i64 (-1000)))),zA 13 (.pick (.t 9) (.c (.bool true)) (.t 12)),zM 14 13,zF 14 15 (.fa 2 none (.t 1)),zF 14 16 (.ld none (.t 15)),zF 14 17 (.bin .gtr none (.t 16) (.c (.int .i64 1000))),zA 18 (.pick (.t 14) (.c (.bool true)) (.t 17))] false [1,18] [1]) (.cond (.t 18) (.seq (.reg [zA 2 (.mv (.c (.bool false)))] false [2] []) .ret) .skip)) ic39_1))
def kp39 : List (Nat × Keep) := [(0, ⟨[1], [1], []⟩),
  (1, ⟨[1, 18], [1], []⟩),
  (2, ⟨[2], [], []⟩),
  (3, ⟨[4], [], []⟩),
  (4, ⟨[2], [], []⟩)]
theorem c39 : (Tryz.f39.body.bind fun c => compC Tryz.prog 26 [] kp39 c) = some ic39 := by kernel_rfl
theorem e39 {args : List AV} {r : AV} (ha : args.length ≤ 26) (h : VC e0 ic39 (retQ [(2, none)] r) ⟨argT 0 args, []⟩) : Fn 39 args r := fn_of Tryz.func39 rfl (by kernel_rfl) c39 ha (by decide) h
def ic40 : IC := (.seq (.reg [zA 1 (.box 23 (.t 0)),zA 2 (.mv (.c (.bool false)))] false [1] [1]) (.seq (.reg [zK 3 3 1,zC 4 65 3,zS 3 1 4] false [1] [1]) (.seq (.reg [zG 5 1 1,zL 6 5,zA 7 (.bin .eql none (.t 6) (.c (.str [48]))),zM 8 7,zF 8 9 (.fa 2 none (.t 1)),zF 8 10 (.ld none (.t 9)),zF 8 11 (.bin .geq none (.t 10) (.c (.int .i64 (-300)))),zF 8 12 (.mv (.t 11)),zT 12 13 (.ld (some 3) (.t 1)),zT 12 14 (.call 66 [(.t 13,none)]),zT 12 15 (.bin .lss none (.t 14) (.c (.int .i64 300))),zF 8 16 (.pick (.t 12) (.t 15) (.c (.bool false))),zA 17 (.pick (.t 8) (.c (.bool true)) (.t 16)),zM 2 17] false [2] []) .ret)))
def kp40 : List (Nat × Keep) := [(0, ⟨[1], [1], []⟩),
  (1, ⟨[1], [1], []⟩),
  (2, ⟨[2], [], []⟩)]
theorem c40 : (Tryz.f40.body.bind fun c => compC Tryz.prog 18 [] kp40 c) = some ic40 := by kernel_rfl
theorem e40 {args : List AV} {r : AV} (ha : args.length ≤ 18) (h : VC e0 ic40 (retQ [(2, none)] r) ⟨argT 0 args, []⟩) : Fn 40 args r := fn_of Tryz.func40 rfl (by kernel_rfl) c40 ha (by decide) h
def ic41_1 : IC := (.seq (.reg [zI 2 0] false [2] []) .ret)
def ic41 : IC := (.seq (.reg [zA 1 (.box 26 (.t 0)),zI 2 0] false [1] [1]) (.seq (.block 0 (.seq (.reg [zK 4 20 1,zA 5 (.call 67 [(.t 4,none),((.c (.int .i64 4)),none)]),zM 3 5] false [1,3] [1]) (.cond (.t 3) (.seq (.reg [zI 2 2] false [2] []) .ret) (.seq (.reg [zK 7 20 1,zA 8 (.call 67 [(.t 7,none),((.c (.int .i64 5)),none)]),zM 6 8] false [6] []) (.cond (.t 6) (.seq (.reg [zI 2 3] false [2] []) .ret) .skip))))) ic41_1))
def kp41 : List (Nat × Keep) := [(0, ⟨[1], [1], []⟩),
  (1, ⟨[1, 3], [1], []⟩),
  (2, ⟨[2], [], []⟩),
  (3, ⟨[6], [], []⟩),
  (4, ⟨[2], [], []⟩),
  (5, ⟨[2], [], []⟩)]
theorem c41 : (Tryz.f41.body.bind fun c => compC Tryz.prog 9 [] kp41 c) = some ic41 := by kernel_rfl
theorem e41 {args : List AV} {r : AV} (ha : args.length ≤ 9) (h : VC e0 ic41 (retQ [(2, none)] r) ⟨argT 0 args, []⟩) : Fn 41 args r := fn_of Tryz.func41 rfl (by kernel_rfl) c41 ha (by decide) h
def ic42_1 : IC := (.seq (.reg [zM 43 1,zK 44 3 5,zG 45 8 3,zL 46 45,zA 47 (.neg (.t 46)),zA 48 (.call 69 [(.t 43,none),(.t 44,none),(.t 47,none)]),zE 49 48 0,zE 50 48 1,zS 3 6 49,zM 7 50] false [6,7] [6]) .ret)
def ic42 : IC := (.seq (.reg [zA 3 (.box 26 (.t 0)),zA 5 (.box 23 (.t 2)),zA 6 (.alloc 23 [(.bool false),(.str []),(.int .i64 0)]),zI 7 0] false [1,3,5,6] [3,5,6]) (.seq (.block 0 (.seq (.reg [zG 11 14 3,zL 12 11,zM 13 12,zF 13 14 (.fa 9 none (.t 3)),zF 13 15 (.ld none (.t 14)),zF 13 16 (.bin .gtr none (.t 15) (.c (.int .i64 0))),zA 17 (.pick (.t 13) (.c (.bool true)) (.t 16)),zM 10 17] false [1,3,5,6,10] [3,5,6]) (.cond (.t 10) (.seq (.reg [zK 19 20 3,zC 20 24 19,zM 18 20,zE 21 18 0,zE 22 18 1,zM 8 21,zM 9 22] false [1,5,6,9] [5,6]) (.seq (.reg [zM 23 1,zK 24 3 5,zM 25 9,zA 26 (.call 68 [(.t 23,none),(.t 24,none),(.t 25,none)]),zE 27 26 0,zE 28 26 1,zS 3 6 27,zM 7 28] false [6,7] [6]) .ret)) (.seq (.reg [zG 30 13 3,zL 31 30,zA 32 (.bin .neq none (.t 31) (.c (.str []))),zM 29 32] false [1,3,5,6,29] [3,5,6]) (.cond (.t 29) (.seq (.reg [zM 33 1,zK 34 3 5,zG 35 13 3,zL 36 35,zG 37 8 3,zL 38 37,zA 39 (.neg (.t 38)),zA 40 (.call 45 [(.t 33,none),(.t 34,none),(.t 36,none),(.t 39,none)]),zE 41 40 0,zE 42 40 1,zS 3 6 41,zM 7 42] false [6,7] [6]) .ret) .skip))))) ic42_1))
def kp42 : List (Nat × Keep) := [(0, ⟨[1, 3, 5, 6], [3, 5, 6], []⟩),
  (1, ⟨[1, 3, 5, 6, 10], [3, 5, 6], []⟩),
  (2, ⟨[1, 5, 6, 9], [5, 6], []⟩),
  (3, ⟨[6, 7], [6], []⟩),
  (4, ⟨[1, 3, 5, 6, 29], [3, 5, 6], []⟩),
  (5, ⟨[6, 7], [6], []⟩),
  (6, ⟨[6, 7], [6], []⟩)]
theorem c42 : (Tryz.f42.body.bind fun c => compC Tryz.prog 51 [] kp42 c) = some ic42 := by kernel_rfl
theorem e42 {args : List AV} {r : AV} (ha : args.length ≤ 51) (h : VC e0 ic42 (retQ [(6, (some (some 3))), (7, none)] r) ⟨argT 0 args, []⟩) : Fn 42 args r := fn_of Tryz.func42 rfl (by kernel_rfl) c42 ha (by decide) h
def ic43 : IC := (.seq (.reg [zA 2 (.box 23 (.t 0)),zA 4 (.alloc 23 [(.bool false),(.str []),(.int .i64 0)])] false [1,2,4] [2,4]) (.seq (.reg [zG 5 2 2,zL 6 5,zM 7 1,zA 8 (.bin .add none (.t 6) (.t 7)),zG 9 2 2,zS 1 9 8] false [2,4] [2,4]) (.seq (.reg [zK 10 3 2,zC 11 65 10,zS 3 4 11] false [4] [4]) .ret)))
def kp43 : List (Nat × Keep) := [(0, ⟨[1, 2, 4], [2, 4], []⟩),
  (1, ⟨[2, 4], [2, 4], []⟩),
  (2, ⟨[4], [4], []⟩)]
theorem c43 : (Tryz.f43.body.bind fun c => compC Tryz.prog 12 [] kp43 c) = some ic43 := by kernel_rfl
theorem e43 {args : List AV} {r : AV} (ha : args.length ≤ 12) (h : VC e0 ic43 (retQ [(4, (some (some 3)))] r) ⟨argT 0 args, []⟩) : Fn 43 args r := fn_of Tryz.func43 rfl (by kernel_rfl) c43 ha (by decide) h
def ic45_1 : IC := (.seq (.reg [zG 93 0 5,zL 94 93,zM 95 13,zM 96 10,zA 97 (.call 77 [(.t 95,(some 1)),(.t 96,(some 1))]),zA 98 (.call 76 [(.t 97,(some 1))]),zM 99 12,zA 100 (.build [(.bool false),(.str []),(.int .i64 0)] [(0,(1,(.t 94))),(1,(1,(.t 98))),(2,(1,(.t 99)))]),zC 101 65 100,zS 3 8 101,zI 9 0] true [8,9] [8]) .ret)
def ic45_2 : IC := (.seq (.seq (.reg [zM 71 0,zG 72 0 5,zL 73 72,zM 74 13,zA 75 (.len false (.t 74)),zA 76 (.bin .gtr none (.t 75) (.c (.int .i64 0))),zM 77 76,zT 77 78 (.mv (.t 13)),zT 77 79 (.ia 1 (.t 78) (.c (.int .i64 0))),zT 77 80 (.ld none (.t 79)),zT 77 81 (.bin .rem none (.t 80) (.c (.int .u32 2))),zT 77 82 (.bin .eql none (.t 81) (.c (.int .u32 1))),zA 83 (.pick (.t 77) (.t 82) (.c (.bool false))),zM 84 14,zM 85 14,zA 86 (.call 75 [(.t 84,(some 1)),(.t 85,(some 1))]),zM 87 10,zA 88 (.call 74 [(.t 86,(some 1)),(.t 87,(some 1))]),zA 89 (.call 73 [(.t 71,none),(.t 73,none),(.t 83,none),(.t 88,none)])] true [5,8,10,12,13,89] [5,8]) (.cond (.t 89) (.reg [zM 90 13,zA 91 (.lit false 94 1 [(.c (.int .u32 1))]),zA 92 (.call 75 [(.t 90,(some 1)),(.t 91,(some 1))]),zM 13 92] false [5,8,10,12,13] [5,8]) .skip)) ic45_1)
def ic45_3 : IC := (.seq (.reg [zG 39 2 5,zL 40 39,zM 41 3,zA 42 (.mn (.t 40) (.t 41)),zM 12 42] false [0,3,5,8,10,12] [5,8]) (.seq (.reg [zM 43 10,zM 44 3,zM 45 12,zA 46 (.bin .sub none (.t 44) (.t 45)),zA 47 (.call 70 [(.t 43,(some 1)),(.t 46,none)]),zM 10 47] false [0,5,8,10,12] [5,8]) (.seq (.reg [zK 49 3 5,zC 50 72 49,zG 51 2 5,zL 52 51,zM 53 12,zA 54 (.bin .sub none (.t 52) (.t 53)),zA 55 (.call 70 [(.t 50,(some 1)),(.t 54,none)]),zM 56 10,zA 57 (.call 71 [(.t 55,(some 1)),(.t 56,(some 1))]),zM 48 57,zE 58 48 0,zE 59 48 1,zE 60 48 2,zM 13 58,zM 14 59,zM 15 60] true [0,5,8,10,12,13,14] [5,8]) (.seq (.block 0 (.seq (.reg [zM 62 14,zA 63 (.len false (.t 62)),zA 64 (.bin .eql none (.t 63) (.c (.int .i64 0))),zM 61 64] false [0,5,8,10,12,13,14,61] [5,8]) (.cond (.t 61) (.seq (.reg [zK 65 3 5,zC 66 65 65,zS 3 8 66,zI 9 0] false [8,9] [8]) .ret) (.seq (.reg [zM 68 0,zA 69 (.bin .eql none (.t 68) (.c (.int .i64 7))),zM 67 69] false [0,5,8,10,12,13,14,67] [5,8]) (.cond (.t 67) (.seq (.reg [zA 70 (.build [(.bool false),(.str []),(.int .i64 0)] []),zS 3 8 70,zI 9 11] false [8,9] [8]) .ret) .skip))))) ic45_2))))
def ic45 : IC := (.seq (.reg [zA 5 (.box 23 (.t 1)),zA 8 (.alloc 23 [(.bool false),(.str []),(.int .i64 0)]),zI 9 0] false [0,2,3,5,8] [5,8]) (.seq (.reg [zM 17 2,zC 18 64 17,zM 16 18,zE 19 16 0,zE 20 16 1,zM 10 19,zM 11 20] false [0,2,3,5,8,10,11] [5,8]) (.seq (.seq (.reg [zM 21 0,zC 22 38 21,zA 23 (.not (.t 22)),zM 24 23,zF 24 25 (.mv (.t 11)),zF 24 26 (.not (.t 25)),zA 27 (.pick (.t 24) (.c (.bool true)) (.t 26)),zM 28 27,zF 28 29 (.mv (.t 2)),zF 28 30 (.len true (.t 29)),zF 28 31 (.bin .gtr none (.t 30) (.c (.int .i64 40))),zA 32 (.pick (.t 28) (.c (.bool true)) (.t 31)),zM 33 32,zF 33 34 (.mv (.t 10)),zF 33 35 (.len false (.t 34)),zF 33 36 (.bin .eql none (.t 35) (.c (.int .i64 0))),zA 37 (.pick (.t 33) (.c (.bool true)) (.t 36))] false [0,3,5,8,10,37] [5,8]) (.cond (.t 37) (.seq (.reg [zA 38 (.build [(.bool false),(.str []),(.int .i64 0)] []),zS 3 8 38,zI 9 1] false [8,9] [8]) .ret) .skip)) ic45_3)))
def kp45 : List (Nat × Keep) := [(0, ⟨[0, 2, 3, 5, 8], [5, 8], []⟩),
  (1, ⟨[0, 2, 3, 5, 8, 10, 11], [5, 8], []⟩),
  (2, ⟨[0, 3, 5, 8, 10, 37], [5, 8], []⟩),
  (3, ⟨[8, 9], [8], []⟩),
  (4, ⟨[0, 3, 5, 8, 10, 12], [5, 8], []⟩),
  (5, ⟨[0, 5, 8, 10, 12], [5, 8], []⟩),
  (6, ⟨[0, 5, 8, 10, 12, 13, 14], [5, 8], []⟩),
  (7, ⟨[0, 5, 8, 10, 12, 13, 14, 61], [5, 8], []⟩),
  (8, ⟨[8, 9], [8], []⟩),
  (9, ⟨[0, 5, 8, 10, 12, 13, 14, 67], [5, 8], []⟩),
  (10, ⟨[8, 9], [8], []⟩),
  (11, ⟨[5, 8, 10, 12, 13, 89], [5, 8], []⟩),
  (12, ⟨[5, 8, 10, 12, 13], [5, 8], []⟩),
  (13, ⟨[8, 9], [8], []⟩)]
theorem c45 : (Tryz.f45.body.bind fun c => compC Tryz.prog 102 [] kp45 c) = some ic45 := by kernel_rfl
theorem e45 {args : List AV} {r : AV} (ha : args.length ≤ 102) (h : VC e0 ic45 (retQ [(8, (some (some 3))), (9, none)] r) ⟨argT 0 args, []⟩) : Fn 45 args r := fn_of Tryz.func45 rfl (by kernel_rfl) c45 ha (by decide) h
def ic46_1 : IC := (.seq (.reg [zK 12 3 2,zM 13 1,zY 14 78 12 13,zM 11 14,zE 15 11 0,zE 16 11 1,zM 5 15,zM 6 16] false [6] []) (.seq (.reg [zM 17 6,zA 18 (.len false (.t 17)),zA 19 (.bin .eql none (.t 18) (.c (.int .i64 0))),zM 4 19] false [4] []) .ret))
def ic46 : IC := (.seq (.reg [zA 2 (.box 23 (.t 0)),zA 4 (.mv (.c (.bool false)))] false [1,2] [2]) (.seq (.seq (.reg [zM 7 1,zG 8 2 2,zL 9 8,zA 10 (.bin .leq none (.t 7) (.t 9))] false [1,2,10] [2]) (.cond (.t 10) (.seq (.reg [zA 4 (.mv (.c (.bool true)))] false [4] []) .ret) .skip)) ic46_1))
def kp46 : List (Nat × Keep) := [(0, ⟨[1, 2], [2], []⟩),
  (1, ⟨[1, 2, 10], [2], []⟩),
  (2, ⟨[4], [], []⟩),
  (3, ⟨[6], [], []⟩),
  (4, ⟨[4], [], []⟩)]
theorem c46 : (Tryz.f46.body.bind fun c => compC Tryz.prog 20 [] kp46 c) = some ic46 := by kernel_rfl
theorem e46 {args : List AV} {r : AV} (ha : args.length ≤ 20) (h : VC e0 ic46 (retQ [(4, none)] r) ⟨argT 0 args, []⟩) : Fn 46 args r := fn_of Tryz.func46 rfl (by kernel_rfl) c46 ha (by decide) h
def ic48_1 : IC := (.seq (.reg [zG 33 0 3,zL 34 33,zK 35 3 3,zM 36 6,zA 37 (.bin .sub none (.t 36) (.c (.int .i64 1))),zA 38 (.call 82 [(.t 35,none),(.t 37,none),((.c (.int .i64 0)),none)]),zK 39 3 3,zM 40 7,zA 41 (.neg (.t 40)),zA 42 (.call 82 [(.t 39,none),((.c (.int .i64 (-1))),none),(.t 41,none)]),zA 43 (.build [(.bool false),(.str []),(.str []),(.int .i64 0)] [(0,(1,(.t 34))),(1,(1,(.t 38))),(2,(1,(.t 42)))]),zS 4 4 43] true [4] [4]) .ret)
def ic48_2 : IC := (.seq (.reg [zM 22 7,zK 23 3 3,zA 24 (.call 80 [(.t 23,none),((.c (.int .i64 0)),none)]),zA 25 (.mx (.t 22) (.t 24)),zM 7 25] false [3,4,5,6,7] [3,4]) (.seq (.seq (.reg [zK 26 3 3,zC 27 81 26,zA 28 (.not (.t 27))] false [3,4,5,6,7,28] [3,4]) (.cond (.t 28) (.reg [zM 29 6,zM 30 5,zA 31 (.bin .add none (.t 30) (.c (.int .i64 1))),zA 32 (.mx (.t 29) (.t 31)),zM 6 32] false [3,4,6,7] [3,4]) .skip)) ic48_1))
def ic48 : IC := (.seq (.reg [zA 2 (.box 26 (.t 0)),zA 3 (.box 23 (.t 1)),zA 4 (.alloc 39 [(.bool false),(.str []),(.str []),(.int .i64 0)])] false [2,3,4] [2,3,4]) (.seq (.reg [zK 8 3 3,zC 9 66 8,zM 5 9] false [2,3,4,5] [2,3,4]) (.seq (.reg [zG 10 5 2,zL 11 10,zG 12 7 2,zL 13 12,zM 6 11,zM 7 13] true [2,3,4,5,6,7] [2,3,4]) (.seq (.seq (.reg [zG 14 9 2,zL 15 14,zA 16 (.bin .gtr none (.t 15) (.c (.int .i64 0)))] false [2,3,4,5,6,7,16] [2,3,4]) (.cond (.t 16) (.reg [zG 17 9 2,zL 18 17,zA 19 (.bin .sub none (.t 18) (.c (.int .i64 1))),zM 20 5,zA 21 (.bin .sub none (.t 19) (.t 20)),zI 6 1,zM 7 21] true [3,4,5,6,7] [3,4]) .skip)) ic48_2))))
def kp48 : List (Nat × Keep) := [(0, ⟨[2, 3, 4], [2, 3, 4], []⟩),
  (1, ⟨[2, 3, 4, 5], [2, 3, 4], []⟩),
  (2, ⟨[2, 3, 4, 5, 6, 7], [2, 3, 4], []⟩),
  (3, ⟨[2, 3, 4, 5, 6, 7, 16], [2, 3, 4], []⟩),
  (4, ⟨[3, 4, 5, 6, 7], [3, 4], []⟩),
  (5, ⟨[3, 4, 5, 6, 7], [3, 4], []⟩),
  (6, ⟨[3, 4, 5, 6, 7, 28], [3, 4], []⟩),
  (7, ⟨[3, 4, 6, 7], [3, 4], []⟩),
  (8, ⟨[4], [4], []⟩)]
theorem c48 : (Tryz.f48.body.bind fun c => compC Tryz.prog 44 [] kp48 c) = some ic48 := by kernel_rfl
theorem e48 {args : List AV} {r : AV} (ha : args.length ≤ 44) (h : VC e0 ic48 (retQ [(4, (some (some 4)))] r) ⟨argT 0 args, []⟩) : Fn 48 args r := fn_of Tryz.func48 rfl (by kernel_rfl) c48 ha (by decide) h
def ic49_1 : IC := (.seq (.reg [zK 38 20 2,zC 39 24 38,zM 37 39,zE 40 37 0,zE 41 37 1,zM 8 40,zM 9 41] false [3,4,5,7,8] [3,4,7]) (.seq (.reg [zM 42 8,zM 43 5,zA 44 (.bin .sub none (.t 42) (.t 43)),zK 45 3 3,zG 46 3 7,zL 47 46,zY 48 80 45 47,zA 49 (.mx (.t 44) (.t 48)),zM 10 49] false [3,4,5,7,10] [3,4,7]) (.seq (.reg [zK 50 3 3,zG 51 3 7,zL 52 51,zM 53 5,zA 54 (.bin .add none (.t 52) (.t 53)),zA 55 (.bin .sub none (.t 54) (.c (.int .i64 1))),zG 56 3 7,zL 57 56,zA 58 (.call 82 [(.t 50,none),(.t 55,none),(.t 57,none)]),zK 59 3 3,zG 60 3 7,zL 61 60,zA 62 (.bin .sub none (.t 61) (.c (.int .i64 1))),zG 63 3 7,zL 64 63,zM 65 10,zA 66 (.bin .sub none (.t 64) (.t 65)),zA 67 (.call 82 [(.t 59,none),(.t 62,none),(.t 66,none)]),zG 68 1 7,zS 1 68 58,zG 69 2 7,zS 1 69 67] true [4,7] [4,7]) (.seq (.reg [zK 70 4 7,zS 4 4 70] false [4] [4]) .ret))))
def ic49_2 : IC := (.seq (.seq (.reg [zK 34 3 3,zC 35 81 34] false [2,3,4,5,7,35] [2,3,4,7]) (.cond (.t 35) (.reg [zG 36 3 7,zU (.st 1 (.t 36) (.c (.int .i64 0)))] false [2,3,4,5,7] [2,3,4,7]) .skip)) ic49_1)
def ic49 : IC := (.seq (.reg [zA 2 (.box 26 (.t 0)),zA 3 (.box 23 (.t 1)),zA 4 (.alloc 39 [(.bool false),(.str []),(.str []),(.int .i64 0)])] false [2,3,4] [2,3,4]) (.seq (.reg [zK 11 20 2,zC 12 54 11,zK 13 3 3,zC 14 66 13,zM 5 12,zM 6 14] true [2,3,4,5,6] [2,3,4]) (.seq (.reg [zG 15 0 3,zL 16 15,zM 17 6,zM 18 5,zA 19 (.bin .sub none (.t 17) (.t 18)),zA 20 (.bin .add none (.t 19) (.c (.int .i64 1))),zA 21 (.build [(.bool false),(.str []),(.str []),(.int .i64 0)] [(0,(1,(.t 16))),(3,(1,(.t 20)))]),zA 7 (.alloc 39 [(.bool false),(.str []),(.str []),(.int .i64 0)]),zS 4 7 21] false [2,3,4,5,6,7] [2,3,4,7]) (.seq (.seq (.reg [zK 22 20 2,zC 23 26 22] false [2,3,4,5,6,7,23] [2,3,4,7]) (.cond (.t 23) (.seq (.reg [zM 24 6,zG 25 6 2,zL 26 25,zY 27 83 24 26,zG 28 3 7,zS 1 28 27] false [2,3,4,6,7] [2,3,4,7]) (.reg [zM 29 6,zG 30 3 7,zL 31 30,zA 32 (.bin .sub none (.t 29) (.t 31)),zA 33 (.bin .add none (.t 32) (.c (.int .i64 1))),zM 5 33] false [2,3,4,5,7] [2,3,4,7])) .skip)) ic49_2))))
def kp49 : List (Nat × Keep) := [(0, ⟨[2, 3, 4], [2, 3, 4], []⟩),
  (1, ⟨[2, 3, 4, 5, 6], [2, 3, 4], []⟩),
  (2, ⟨[2, 3, 4, 5, 6, 7], [2, 3, 4, 7], []⟩),
  (3, ⟨[2, 3, 4, 5, 6, 7, 23], [2, 3, 4, 7], []⟩),
  (4, ⟨[2, 3, 4, 6, 7], [2, 3, 4, 7], []⟩),
  (5, ⟨[2, 3, 4, 5, 7], [2, 3, 4, 7], []⟩),
  (6, ⟨[2, 3, 4, 5, 7, 35], [2, 3, 4, 7], []⟩),
  (7, ⟨[2, 3, 4, 5, 7], [2, 3, 4, 7], []⟩),
  (8, ⟨[3, 4, 5, 7, 8], [3, 4, 7], []⟩),
  (9, ⟨[3, 4, 5, 7, 10], [3, 4, 7], []⟩),
  (10, ⟨[4, 7], [4, 7], []⟩),
  (11, ⟨[4], [4], []⟩)]
theorem c49 : (Tryz.f49.body.bind fun c => compC Tryz.prog 71 [] kp49 c) = some ic49 := by kernel_rfl
theorem e49 {args : List AV} {r : AV} (ha : args.length ≤ 71) (h : VC e0 ic49 (retQ [(4, (some (some 4)))] r) ⟨argT 0 args, []⟩) : Fn 49 args r := fn_of Tryz.func49 rfl (by kernel_rfl) c49 ha (by decide) h
def ic54_1 : IC := (.cond (.t 3) (.seq (.reg [zI 2 1] false [2] []) .ret) .skip)
def ic54_2 : IC := (.seq (.reg [zG 20 5 1,zL 21 20,zM 2 21] false [2] []) .ret)
def ic54 : IC := (.seq (.reg [zA 1 (.box 26 (.t 0)),zI 2 0] false [1] [1]) (.seq (.block 0 (.seq (.seq (.reg [zG 4 9 1,zL 5 4,zA 6 (.bin .gtr none (.t 5) (.c (.int .i64 0))),zM 3 6] false [1,3] [1]) (.cond (.t 3) .skip (.seq (.reg [zK 7 20 1,zC 8 26 7,zM 9 8,zT 9 10 (.fa 5 none (.t 1)),zT 9 11 (.ld none (.t 10)),zT 9 12 (.bin .eql none (.t 11) (.c (.int .i64 0))),zA 13 (.pick (.t 9) (.t 12) (.c (.bool false))),zM 3 13] false [1,3] [1]) (.cond (.t 3) .skip (.reg [zG 14 5 1,zL 15 14,zG 16 8 1,zL 17 16,zA 18 (.bin .add none (.t 15) (.t 17)),zA 19 (.bin .eql none (.t 18) (.c (.int .i64 0))),zM 3 19] false [1,3] [1]))))) ic54_1)) ic54_2))
def kp54 : List (Nat × Keep) := [(0, ⟨[1], [1], []⟩),
  (1, ⟨[1, 3], [1], []⟩),
  (2, ⟨[1, 3], [1], []⟩),
  (3, ⟨[1, 3], [1], []⟩),
  (4, ⟨[2], [], []⟩),
  (5, ⟨[2], [], []⟩)]
theorem c54 : (Tryz.f54.body.bind fun c => compC Tryz.prog 22 [] kp54 c) = some ic54 := by kernel_rfl
theorem e54 {args : List AV} {r : AV} (ha : args.length ≤ 22) (h : VC e0 ic54 (retQ [(2, none)] r) ⟨argT 0 args, []⟩) : Fn 54 args r := fn_of Tryz.func54 rfl (by kernel_rfl) c54 ha (by decide) h
def ic61 : IC := (.seq (.reg [zA 2 (.box 23 (.t 0)),zI 4 0] false [1,2] [2]) (.seq (.reg [zK 5 3 2,zC 6 66 5,zM 7 1,zA 8 (.mx (.t 7) (.c (.int .i64 1))),zA 9 (.bin .sub none (.t 6) (.t 8)),zA 10 (.bin .add none (.t 9) (.c (.int .i64 1))),zM 4 10] false [4] []) .ret))
def kp61 : List (Nat × Keep) := [(0, ⟨[1, 2], [2], []⟩),
  (1, ⟨[4], [], []⟩)]
theorem c61 : (Tryz.f61.body.bind fun c => compC Tryz.prog 11 [] kp61 c) = some ic61 := by kernel_rfl
theorem e61 {args : List AV} {r : AV} (ha : args.length ≤ 11) (h : VC e0 ic61 (retQ [(4, none)] r) ⟨argT 0 args, []⟩) : Fn 61 args r := fn_of Tryz.func61 rfl (by kernel_rfl) c61 ha (by decide) h
def ic65_1 : IC := (.seq (.reg [zM 13 3,zA 14 (.call 94 [(.t 13,none),((.c (.str [48])),none)]),zM 4 14] false [1,2,3,4] [1,2]) (.seq (.reg [zG 15 0 1,zL 16 15,zM 17 4,zG 18 2 1,zL 19 18,zM 20 3,zA 21 (.len true (.t 20)),zA 22 (.bin .add none (.t 19) (.t 21)),zM 23 4,zA 24 (.len true (.t 23)),zA 25 (.bin .sub none (.t 22) (.t 24)),zA 26 (.build [(.bool false),(.str []),(.int .i64 0)] [(0,(1,(.t 16))),(1,(1,(.t 17))),(2,(1,(.t 25)))]),zS 3 2 26] false [2] [2]) .ret))
def ic65 : IC := (.seq (.reg [zA 1 (.box 23 (.t 0)),zA 2 (.alloc 23 [(.bool false),(.str []),(.int .i64 0)])] false [1,2] [1,2]) (.seq (.reg [zG 5 1 1,zL 6 5,zA 7 (.call 93 [(.t 6,none),((.c (.str [48])),none)]),zM 3 7] false [1,2,3] [1,2]) (.seq (.seq (.reg [zM 8 3,zA 9 (.bin .eql none (.t 8) (.c (.str [])))] false [1,2,3,9] [1,2]) (.cond (.t 9) (.seq (.reg [zG 10 0 1,zL 11 10,zA 12 (.build [(.bool false),(.str []),(.int .i64 0)] [(0,(1,(.t 11))),(1,(1,(.c (.str [48]))))]),zS 3 2 12] false [2] [2]) .ret) .skip)) ic65_1)))
def kp65 : List (Nat × Keep) := [(0, ⟨[1, 2], [1, 2], []⟩),
  (1, ⟨[1, 2, 3], [1, 2], []⟩),
  (2, ⟨[1, 2, 3, 9], [1, 2], []⟩),
  (3, ⟨[2], [2], []⟩),
  (4, ⟨[1, 2, 3, 4], [1, 2], []⟩),
  (5, ⟨[2], [2], []⟩)]
theorem c65 : (Tryz.f65.body.bind fun c => compC Tryz.prog 27 [] kp65 c) = some ic65 := by kernel_rfl
theorem e65 {args : List AV} {r : AV} (ha : args.length ≤ 27) (h : VC e0 ic65 (retQ [(2, (some (some 3)))] r) ⟨argT 0 args, []⟩) : Fn 65 args r := fn_of Tryz.func65 rfl (by kernel_rfl) c65 ha (by decide) h
def ic66_1 : IC := (.seq (.reg [zG 8 2 1,zL 9 8,zG 10 1 1,zL 11 10,zA 12 (.len true (.t 11)),zA 13 (.bin .add none (.t 9) (.t 12)),zA 14 (.bin .sub none (.t 13) (.c (.int .i64 1))),zM 2 14] false [2] []) .ret)
def ic66 : IC := (.seq (.reg [zA 1 (.box 23 (.t 0)),zI 2 0] false [1] [1]) (.seq (.seq (.reg [zK 3 3 1,zC 4 65 3,zS 3 1 4] false [1] [1]) (.seq (.reg [zG 5 1 1,zL 6 5,zA 7 (.bin .eql none (.t 6) (.c (.str [48])))] false [1,7] [1]) (.cond (.t 7) (.seq (.reg [zI 2 0] false [2] []) .ret) .skip))) ic66_1))
def kp66 : List (Nat × Keep) := [(0, ⟨[1], [1], []⟩),
  (1, ⟨[1], [1], []⟩),
  (2, ⟨[1, 7], [1], []⟩),
  (3, ⟨[2], [], []⟩),
  (4, ⟨[2], [], []⟩)]
theorem c66 : (Tryz.f66.body.bind fun c => compC Tryz.prog 15 [] kp66 c) = some ic66 := by kernel_rfl
theorem e66 {args : List AV} {r : AV} (ha : args.length ≤ 15) (h : VC e0 ic66 (retQ [(2, none)] r) ⟨argT 0 args, []⟩) : Fn 66 args r := fn_of Tryz.func66 rfl (by kernel_rfl) c66 ha (by decide) h
def ic67 : IC := (.seq (.reg [zA 2 (.box 26 (.t 0)),zA 4 (.mv (.c (.bool false)))] false [1,2] [2]) (.seq (.reg [zM 5 1,zG 6 0 2,zL 7 6,zG 8 1 2,zL 9 8,zG 10 3 2,zL 11 10,zG 12 4 2,zL 13 12,zA 14 (.lit false 24 1 [(.t 7),(.t 9),(.t 11),(.t 13)]),zA 15 (.call 95 [(.t 5,none),(.t 14,(some 1))]),zM 4 15] false [4] []) .ret))
def kp67 : List (Nat × Keep) := [(0, ⟨[1, 2], [2], []⟩),
  (1, ⟨[4], [], []⟩)]
theorem c67 : (Tryz.f67.body.bind fun c => compC Tryz.prog 16 [] kp67 c) = some ic67 := by kernel_rfl
theorem e67 {args : List AV} {r : AV} (ha : args.length ≤ 16) (h : VC e0 ic67 (retQ [(4, none)] r) ⟨argT 0 args, []⟩) : Fn 67 args r := fn_of Tryz.func67 rfl (by kernel_rfl) c67 ha (by decide) h
def ic68_1 : IC := (.seq (.reg [zM 16 0,zK 17 3 4,zK 18 3 4,zM 19 2,zY 20 61 18 19,zA 21 (.call 69 [(.t 16,none),(.t 17,none),(.t 20,none)]),zE 22 21 0,zE 23 21 1,zS 3 6 22,zM 7 23] true [6,7] [6]) .ret)
def ic68 : IC := (.seq (.reg [zA 4 (.box 23 (.t 1)),zA 6 (.alloc 23 [(.bool false),(.str []),(.int .i64 0)]),zI 7 0] false [0,2,4,6] [4,6]) (.seq (.seq (.reg [zM 8 0,zC 9 38 8,zA 10 (.not (.t 9)),zM 11 10,zF 11 12 (.mv (.t 2)),zF 11 13 (.bin .lss none (.t 12) (.c (.int .i64 1))),zA 14 (.pick (.t 11) (.c (.bool true)) (.t 13))] false [0,2,4,6,14] [4,6]) (.cond (.t 14) (.seq (.reg [zA 15 (.build [(.bool false),(.str []),(.int .i64 0)] []),zS 3 6 15,zI 7 1] false [6,7] [6]) .ret) .skip)) ic68_1))
def kp68 : List (Nat × Keep) := [(0, ⟨[0, 2, 4, 6], [4, 6], []⟩),
  (1, ⟨[0, 2, 4, 6, 14], [4, 6], []⟩),
  (2, ⟨[6, 7], [6], []⟩),
  (3, ⟨[6, 7], [6], []⟩)]
theorem c68 : (Tryz.f68.body.bind fun c => compC Tryz.prog 24 [] kp68 c) = some ic68 := by kernel_rfl
theorem e68 {args : List AV} {r : AV} (ha : args.length ≤ 24) (h : VC e0 ic68 (retQ [(6, (some (some 3))), (7, none)] r) ⟨argT 0 args, []⟩) : Fn 68 args r := fn_of Tryz.func68 rfl (by kernel_rfl) c68 ha (by decide) h
def ic69_1 : IC := (.seq (.reg [zG 60 0 4,zL 61 60,zM 62 8,zA 63 (.call 76 [(.t 62,(some 1))]),zM 64 2,zA 65 (.build [(.bool false),(.str []),(.int .i64 0)] [(0,(1,(.t 61))),(1,(1,(.t 63))),(2,(1,(.t 64)))]),zC 66 65 65,zS 3 6 66,zI 7 0] true [6,7] [6]) .ret)
def ic69_2 : IC := (.seq (.reg [zK 27 3 4,zM 28 2,zY 29 78 27 28,zM 26 29,zE 30 26 0,zE 31 26 1,zM 8 30,zM 9 31] false [0,2,4,6,8,9] [4,6]) (.seq (.reg [zM 32 9,zM 33 9,zA 34 (.call 75 [(.t 32,(some 1)),(.t 33,(some 1))]),zA 35 (.lit false 94 1 [(.c (.int .u32 1))]),zM 36 2,zG 37 2 4,zL 38 37,zA 39 (.bin .sub none (.t 36) (.t 38)),zA 40 (.call 70 [(.t 35,(some 1)),(.t 39,none)]),zA 41 (.call 74 [(.t 34,(some 1)),(.t 40,(some 1))]),zM 10 41] true [0,2,4,6,8,10] [4,6]) (.seq (.seq (.reg [zM 42 0,zG 43 0 4,zL 44 43,zM 45 8,zA 46 (.len false (.t 45)),zA 47 (.bin .gtr none (.t 46) (.c (.int .i64 0))),zM 48 47,zT 48 49 (.mv (.t 8)),zT 48 50 (.ia 1 (.t 49) (.c (.int .i64 0))),zT 48 51 (.ld none (.t 50)),zT 48 52 (.bin .rem none (.t 51) (.c (.int .u32 2))),zT 48 53 (.bin .eql none (.t 52) (.c (.int .u32 1))),zA 54 (.pick (.t 48) (.t 53) (.c (.bool false))),zM 55 10,zA 56 (.call 73 [(.t 42,none),(.t 44,none),(.t 54,none),(.t 55,none)])] true [2,4,6,8,56] [4,6]) (.cond (.t 56) (.reg [zM 57 8,zA 58 (.lit false 94 1 [(.c (.int .u32 1))]),zA 59 (.call 75 [(.t 57,(some 1)),(.t 58,(some 1))]),zM 8 59] false [2,4,6,8] [4,6]) .skip)) ic69_1)))
def ic69 : IC := (.seq (.reg [zA 4 (.box 23 (.t 1)),zA 6 (.alloc 23 [(.bool false),(.str []),(.int .i64 0)]),zI 7 0] false [0,2,4,6] [4,6]) (.seq (.block 0 (.seq (.reg [zM 12 0,zC 13 38 12,zA 14 (.not (.t 13)),zM 11 14] false [0,2,4,6,11] [4,6]) (.cond (.t 11) (.seq (.reg [zA 15 (.build [(.bool false),(.str []),(.int .i64 0)] []),zS 3 6 15,zI 7 1] false [6,7] [6]) .ret) (.seq (.reg [zK 17 3 4,zM 18 2,zY 19 46 17 18,zM 16 19] false [0,2,4,6,16] [4,6]) (.cond (.t 16) (.seq (.reg [zK 20 3 4,zC 21 65 20,zS 3 6 21,zI 7 0] false [6,7] [6]) .ret) (.seq (.reg [zM 23 0,zA 24 (.bin .eql none (.t 23) (.c (.int .i64 7))),zM 22 24] false [0,2,4,6,22] [4,6]) (.cond (.t 22) (.seq (.reg [zA 25 (.build [(.bool false),(.str []),(.int .i64 0)] []),zS 3 6 25,zI 7 11] false [6,7] [6]) .ret) .skip))))))) ic69_2))
def kp69 : List (Nat × Keep) := [(0, ⟨[0, 2, 4, 6], [4, 6], []⟩),
  (1, ⟨[0, 2, 4, 6, 11], [4, 6], []⟩),
  (2, ⟨[6, 7], [6], []⟩),
  (3, ⟨[0, 2, 4, 6, 16], [4, 6], []⟩),
  (4, ⟨[6, 7], [6], []⟩),
  (5, ⟨[0, 2, 4, 6, 22], [4, 6], []⟩),
  (6, ⟨[6, 7], [6], []⟩),
  (7, ⟨[0, 2, 4, 6, 8, 9], [4, 6], []⟩),
  (8, ⟨[0, 2, 4, 6, 8, 10], [4, 6], []⟩),
  (9, ⟨[2, 4, 6, 8, 56], [4, 6], []⟩),
  (10, ⟨[2, 4, 6, 8], [4, 6], []⟩),
  (11, ⟨[6, 7], [6], []⟩)]
theorem c69 : (Tryz.f69.body.bind fun c => compC Tryz.prog 67 [] kp69 c) = some ic69 := by kernel_rfl
theorem e69 {args : List AV} {r : AV} (ha : args.length ≤ 67) (h : VC e0 ic69 (retQ [(6, (some (some 3))), (7, none)] r) ⟨argT 0 args, []⟩) : Fn 69 args r := fn_of Tryz.func69 rfl (by kernel_rfl) c69 ha (by decide) h
def ic70_1 : IC := (.seq (.reg [zM 12 1,zA 13 (.bin .quo none (.t 12) (.c (.int .i64 9))),zA 14 (.mk 94 4 (.int .u32 0) (.t 13) (.t 13)),zM 15 0,zA 16 (.app 94 1 4 (.t 14) (.t 15)),zM 17 1,zA 18 (.bin .rem none (.t 17) (.c (.int .i64 9))),⟨(some 19),(.ga 1 9 (.g 0) (.t 18)),none,.ref⟩,⟨(some 20),(.ld none (.t 19)),none,.ref⟩,zA 21 (.call 96 [(.t 16,(some 1)),(.t 20,none),((.c (.int .u32 0)),none)]),zM 4 21] true [4] []) .ret)
def ic70 : IC := (.seq (.reg [zA 4 (.mv (.c .nil))] false [0,1] []) (.seq (.reg [zM 5 1,zA 6 (.mx (.t 5) (.c (.int .i64 0))),zM 1 6] false [0,1] []) (.seq (.seq (.reg [zM 7 0,zA 8 (.call 92 [(.t 7,(some 1))]),zM 0 8] false [0,1] []) (.seq (.reg [zM 9 0,zA 10 (.len false (.t 9)),zA 11 (.bin .eql none (.t 10) (.c (.int .i64 0)))] false [0,1,11] []) (.cond (.t 11) (.seq (.reg [zA 4 (.mv (.c .nil))] false [4] []) .ret) .skip))) ic70_1)))
def kp70 : List (Nat × Keep) := [(0, ⟨[0, 1], [], []⟩),
  (1, ⟨[0, 1], [], []⟩),
  (2, ⟨[0, 1], [], []⟩),
  (3, ⟨[0, 1, 11], [], []⟩),
  (4, ⟨[4], [], []⟩),
  (5, ⟨[4], [], [(7, .ref), (8, .ref)]⟩)]
theorem c70 : (Tryz.f70.body.bind fun c => compC Tryz.prog 22 [] kp70 c) = some ic70 := by kernel_rfl
theorem e70 {args : List AV} {r : AV} (ha : args.length ≤ 22) (h : VC e0 ic70 (retQ [(4, none)] r) ⟨argT 0 args, []⟩) : Fn 70 args r := fn_of Tryz.func70 rfl (by kernel_rfl) c70 ha (by decide) h
def ic71_1 : IC := (.seq (.block 1 (.seq (.reg [zM 23 0,zM 24 7,zA 25 (.ia 1 (.t 23) (.t 24)),zL 26 25,zA 27 (.lit true 94 1 [(.t 26)]),zM 28 5,zA 29 (.app 94 1 4 (.t 27) (.t 28)),zA 30 (.call 92 [(.t 29,(some 1))]),zM 5 30] false [0,1,4,5,7] [15]) (.reg [zM 32 4,zM 33 7,zM 34 5,zM 35 1,zA 36 (.call 97 [(.t 34,(some 1)),(.t 35,(some 1))]),zM 31 36,zE 37 31 0,zE 38 31 1,zA 39 (.ia 1 (.t 32) (.t 33)),zS 1 39 37,zM 5 38] false [0,1,4,5,7] [15]))) (.reg [zM 21 7,zA 22 (.bin .sub none (.t 21) (.c (.int .i64 1))),zM 7 22] false [0,1,4,5,7] [15]))
def ic71_2 : IC := (.seq (.seq (.reg [zM 19 7,zA 20 (.bin .geq none (.t 19) (.c (.int .i64 0)))] false [0,1,4,5,7,20] [15]) (.cond (.t 20) .skip (.exit 0))) ic71_1)
def ic71_3 : IC := (.seq (.reg [zM 40 4,zA 41 (.call 92 [(.t 40,(some 1))]),zM 42 5,zA 43 (.call 92 [(.t 42,(some 1))]),zM 4 41,zM 5 43,zA 6 (.mv (.c (.bool true)))] false [4,5,6] [15]) .ret)
def ic71_4 : IC := (.seq (.reg [zM 13 0,zA 14 (.len false (.t 13)),zA 15 (.mk 94 4 (.int .u32 0) (.t 14) (.t 14)),zM 4 15] false [0,1,4,5] [15]) (.seq (.seq (.reg [zM 16 0,zA 17 (.len false (.t 16)),zA 18 (.bin .sub none (.t 17) (.c (.int .i64 1))),zM 7 18] false [0,1,4,5,7] [15]) (.block 0 (.loop ic71_2))) ic71_3))
def ic71 : IC := (.seq (.reg [zA 4 (.mv (.c .nil)),zA 5 (.mv (.c .nil)),zA 6 (.mv (.c (.bool false)))] false [0,1,5] []) (.seq (.reg [zM 8 1,zA 9 (.call 92 [(.t 8,(some 1))]),zM 1 9] false [0,1,5] []) (.seq (.seq (.reg [zM 10 1,zA 11 (.len false (.t 10)),zA 12 (.bin .eql none (.t 11) (.c (.int .i64 0)))] false [0,1,5,12] []) (.cond (.t 12) (.seq (.reg [zA 4 (.mv (.c .nil)),zA 5 (.mv (.c .nil)),zA 6 (.mv (.c (.bool false)))] false [4,5,6] [15]) .ret) .skip)) ic71_4)))
def kp71 : List (Nat × Keep) := [(0, ⟨[0, 1, 5], [], []⟩),
  (1, ⟨[0, 1, 5], [], []⟩),
  (2, ⟨[0, 1, 5, 12], [], []⟩),
  (3, ⟨[4, 5, 6], [15], []⟩),
  (4, ⟨[0, 1, 4, 5], [15], []⟩),
  (5, ⟨[0, 1, 4, 5, 7], [15], []⟩),
  (6, ⟨[0, 1, 4, 5, 7, 20], [15], []⟩),
  (7, ⟨[0, 1, 4, 5, 7], [15], []⟩),
  (8, ⟨[0, 1, 4, 5, 7], [15], []⟩),
  (9, ⟨[0, 1, 4, 5, 7], [15], []⟩),
  (10, ⟨[4, 5, 6], [15], []⟩)]
theorem c71 : (Tryz.f71.body.bind fun c => compC Tryz.prog 44 [27] kp71 c) = some ic71 := by kernel_rfl
theorem e71 {args : List AV} {r : AV} (ha : args.length ≤ 44) (h : VC e0 ic71 (retQ [(4, none), (5, none), (6, none)] r) ⟨argT 0 args, []⟩) : Fn 71 args r := fn_of Tryz.func71 rfl (by kernel_rfl) c71 ha (by decide) h
def ic72 : IC := (.seq (.reg [zA 1 (.box 23 (.t 0)),zA 2 (.mv (.c .nil))] false [1] [1]) (.seq (.reg [zG 6 1 1,zL 7 6,zC 8 64 7,zM 5 8,zE 9 5 0,zE 10 5 1,zM 3 9,zM 4 10] false [3] []) (.seq (.reg [zM 11 3,zM 2 11] false [2] []) .ret)))
def kp72 : List (Nat × Keep) := [(0, ⟨[1], [1], []⟩),
  (1, ⟨[3], [], []⟩),
  (2, ⟨[2], [], []⟩)]
theorem c72 : (Tryz.f72.body.bind fun c => compC Tryz.prog 12 [] kp72 c) = some ic72 := by kernel_rfl
theorem e72 {args : List AV} {r : AV} (ha : args.length ≤ 12) (h : VC e0 ic72 (retQ [(2, none)] r) ⟨argT 0 args, []⟩) : Fn 72 args r := fn_of Tryz.func72 rfl (by kernel_rfl) c72 ha (by decide) h
def ic73 : IC := (.seq (.reg [zA 8 (.mv (.c (.bool false)))] false [0,1,2,3] []) (.seq (.reg [zM 9 0,zC 10 38 9,zM 11 10,zT 11 12 (.mv (.t 0)),zT 11 13 (.ga 1 8 (.g 1) (.t 12)),zT 11 14 (.fa 0 none (.t 13)),zT 11 15 (.ld none (.t 14)),zT 11 16 (.mv (.t 1)),zT 11 17 (.mv (.t 2)),zT 11 18 (.mv (.t 3)),zT 11 19 (.dcall (.t 15) [(.t 16,none),(.t 17,none),(.t 18,none)]),zA 20 (.pick (.t 11) (.t 19) (.c (.bool false))),zM 8 20] false [8] []) .ret))
def kp73 : List (Nat × Keep) := [(0, ⟨[0, 1, 2, 3], [], []⟩),
  (1, ⟨[8], [], []⟩)]
theorem c73 : (Tryz.f73.body.bind fun c => compC Tryz.prog 21 [] kp73 c) = some ic73 := by kernel_rfl
theorem e73 {args : List AV} {r : AV} (ha : args.length ≤ 21) (h : VC e0 ic73 (retQ [(8, none)] r) ⟨argT 0 args, []⟩) : Fn 73 args r := fn_of Tryz.func73 rfl (by kernel_rfl) c73 ha (by decide) h
def ic74_1 : IC := (.reg [zM 29 5,zA 30 (.bin .sub none (.t 29) (.c (.int .i64 1))),zM 5 30] false [0,1,5] [])
def ic74_2 : IC := (.seq (.block 1 (.seq (.reg [zM 31 0,zM 32 5,zA 33 (.ia 1 (.t 31) (.t 32)),zL 34 33,zM 35 1,zM 36 5,zA 37 (.ia 1 (.t 35) (.t 36)),zL 38 37,zA 39 (.bin .neq none (.t 34) (.t 38))] true [0,1,5,39] []) (.cond (.t 39) (.seq (.reg [zM 40 0,zM 41 5,zA 42 (.ia 1 (.t 40) (.t 41)),zL 43 42,zM 44 1,zM 45 5,zA 46 (.ia 1 (.t 44) (.t 45)),zL 47 46,zY 48 100 43 47,zM 4 48] true [4] []) .ret) .skip))) ic74_1)
def ic74_3 : IC := (.seq (.seq (.reg [zM 27 5,zA 28 (.bin .geq none (.t 27) (.c (.int .i64 0)))] false [0,1,5,28] []) (.cond (.t 28) .skip (.exit 0))) ic74_2)
def ic74_4 : IC := (.seq (.reg [zI 4 0] false [4] []) .ret)
def ic74_5 : IC := (.seq (.seq (.reg [zM 24 0,zA 25 (.len false (.t 24)),zA 26 (.bin .sub none (.t 25) (.c (.int .i64 1))),zM 5 26] false [0,1,5] []) (.block 0 (.loop ic74_3))) ic74_4)
def ic74 : IC := (.seq (.reg [zI 4 0] false [0,1] []) (.seq (.reg [zM 6 0,zM 7 0,zA 8 (.call 98 [(.t 7,(some 1))]),zA 9 (.sls 1 (.t 6) none (some (.t 8))),zM 10 1,zM 11 1,zA 12 (.call 98 [(.t 11,(some 1))]),zA 13 (.sls 1 (.t 10) none (some (.t 12))),zM 0 9,zM 1 13] true [0,1] []) (.seq (.seq (.reg [zM 14 0,zA 15 (.len false (.t 14)),zM 16 1,zA 17 (.len false (.t 16)),zA 18 (.bin .neq none (.t 15) (.t 17))] false [0,1,18] []) (.cond (.t 18) (.seq (.reg [zM 19 0,zA 20 (.len false (.t 19)),zM 21 1,zA 22 (.len false (.t 21)),zY 23 99 20 22,zM 4 23] false [4] []) .ret) .skip)) ic74_5)))
def kp74 : List (Nat × Keep) := [(0, ⟨[0, 1], [], []⟩),
  (1, ⟨[0, 1], [], []⟩),
  (2, ⟨[0, 1, 18], [], []⟩),
  (3, ⟨[4], [], []⟩),
  (4, ⟨[0, 1, 5], [], []⟩),
  (5, ⟨[0, 1, 5, 28], [], []⟩),
  (6, ⟨[0, 1, 5], [], []⟩),
  (7, ⟨[0, 1, 5, 39], [], []⟩),
  (8, ⟨[4], [], []⟩),
  (9, ⟨[4], [], []⟩)]
theorem c74 : (Tryz.f74.body.bind fun c => compC Tryz.prog 49 [] kp74 c) = some ic74 := by kernel_rfl
theorem e74 {args : List AV} {r : AV} (ha : args.length ≤ 49) (h : VC e0 ic74 (retQ [(4, none)] r) ⟨argT 0 args, []⟩) : Fn 74 args r := fn_of Tryz.func74 rfl (by kernel_rfl) c74 ha (by decide) h
def ic75_1 : IC := (.seq (.reg [zM 41 9,zA 42 (.bin .quo none (.t 41) (.c (.int .u32 1000000000))),zM 6 42] false [1,5,6,9,21,22,23] [20,47]) (.reg [zM 43 5,zM 44 9,zA 45 (.bin .rem none (.t 44) (.c (.int .u32 1000000000))),zA 46 (.lit false 94 1 [(.t 45)]),zA 47 (.app 94 1 4 (.t 43) (.t 46)),zM 5 47] false [1,5,6,21,22,23] [20,47]))
def ic75_2 : IC := (.reg [zA 48 (.bin .add none (.t 23) (.c (.int .i64 1))),zM 23 48] false [1,5,6,21,22,23] [20,47])
def ic75_3 : IC := (.seq (.block 1 (.seq (.reg [zM 25 23,zA 26 (.ia 1 (.t 21) (.t 23)),zL 27 26,zM 7 25,zM 8 27] false [1,5,6,7,8,21,22,23] [20,47]) (.seq (.reg [zM 28 8,zM 29 6,zA 30 (.bin .add none (.t 28) (.t 29)),zM 9 30] false [1,5,7,9,21,22,23] [20,47]) (.seq (.seq (.reg [zM 31 7,zM 32 1,zA 33 (.len false (.t 32)),zA 34 (.bin .lss none (.t 31) (.t 33))] false [1,5,7,9,21,22,23,34] [20,47]) (.cond (.t 34) (.reg [zM 35 9,zM 36 1,zM 37 7,zA 38 (.ia 1 (.t 36) (.t 37)),zL 39 38,zA 40 (.bin .add none (.t 35) (.t 39)),zM 9 40] false [1,5,9,21,22,23] [20,47]) .skip)) ic75_1)))) ic75_2)
def ic75_4 : IC := (.seq (.reg [zA 24 (.bin .lss none (.t 23) (.t 22))] false [1,5,6,21,22,23,24] [20,47]) (.seq (.cond (.t 24) .skip (.exit 0)) ic75_3))
def ic75_5 : IC := (.seq (.reg [zM 49 5,zM 50 6,zA 51 (.lit false 94 1 [(.t 50)]),zA 52 (.app 94 1 4 (.t 49) (.t 51)),zA 53 (.call 92 [(.t 52,(some 1))]),zM 4 53] false [4] []) .ret)
def ic75_6 : IC := (.seq (.reg [zM 17 0,zA 18 (.len false (.t 17)),zA 19 (.bin .add none (.t 18) (.c (.int .i64 1))),zA 20 (.mk 94 4 (.int .u32 0) (.c (.int .i64 0)) (.t 19)),zM 5 20] false [0,1,5] [20,47]) (.seq (.reg [zA 6 (.mv (.c (.int .u32 0)))] false [0,1,5,6] [20,47]) (.seq (.seq (.reg [zM 21 0,zA 22 (.len false (.t 21)),zI 23 0] false [1,5,6,21,22,23] [20,47]) (.block 0 (.loop ic75_4))) ic75_5)))
def ic75 : IC := (.seq (.reg [zA 4 (.mv (.c .nil))] false [0,1] []) (.seq (.seq (.reg [zM 10 0,zA 11 (.len false (.t 10)),zM 12 1,zA 13 (.len false (.t 12)),zA 14 (.bin .lss none (.t 11) (.t 13))] false [0,1,14] []) (.cond (.t 14) (.reg [zM 15 1,zM 16 0,zM 0 15,zM 1 16] false [0,1] []) .skip)) ic75_6))
def kp75 : List (Nat × Keep) := [(0, ⟨[0, 1], [], []⟩),
  (1, ⟨[0, 1, 14], [], []⟩),
  (2, ⟨[0, 1], [], []⟩),
  (3, ⟨[0, 1, 5], [20, 47], []⟩),
  (4, ⟨[0, 1, 5, 6], [20, 47], []⟩),
  (5, ⟨[1, 5, 6, 21, 22, 23], [20, 47], []⟩),
  (6, ⟨[1, 5, 6, 21, 22, 23, 24], [20, 47], []⟩),
  (7, ⟨[1, 5, 6, 7, 8, 21, 22, 23], [20, 47], []⟩),
  (8, ⟨[1, 5, 7, 9, 21, 22, 23], [20, 47], []⟩),
  (9, ⟨[1, 5, 7, 9, 21, 22, 23, 34], [20, 47], []⟩),
  (10, ⟨[1, 5, 9, 21, 22, 23], [20, 47], []⟩),
  (11, ⟨[1, 5, 6, 9, 21, 22, 23], [20, 47], []⟩),
  (12, ⟨[1, 5, 6, 21, 22, 23], [20, 47], []⟩),
  (13, ⟨[1, 5, 6, 21, 22, 23], [20, 47], []⟩),
  (14, ⟨[4], [], []⟩)]
theorem c75 : (Tryz.f75.body.bind fun c => compC Tryz.prog 54 [] kp75 c) = some ic75 := by kernel_rfl
theorem e75 {args : List AV} {r : AV} (ha : args.length ≤ 54) (h : VC e0 ic75 (retQ [(4, none)] r) ⟨argT 0 args, []⟩) : Fn 75 args r := fn_of Tryz.func75 rfl (by kernel_rfl) c75 ha (by decide) h
def ic77_1 : IC := (.seq (.block 1 (.seq (.reg [zM 19 17,zA 20 (.ia 1 (.t 15) (.t 17)),zL 21 20,zM 6 19,zM 7 21] false [0,5,6,7,15,16,17] [14]) (.reg [zM 22 5,zM 23 0,zM 24 7,zM 25 6,zA 26 (.callm 105 (.t 22) [(.t 23,(some 1)),(.t 24,none),(.t 25,none)])] false [0,5,15,16,17] [14]))) (.reg [zA 27 (.bin .add none (.t 17) (.c (.int .i64 1))),zM 17 27] false [0,5,15,16,17] [14]))
def ic77_2 : IC := (.seq (.reg [zA 18 (.bin .lss none (.t 17) (.t 16))] false [0,5,15,16,17,18] [14]) (.seq (.cond (.t 18) .skip (.exit 0)) ic77_1))
def ic77_3 : IC := (.seq (.reg [zM 28 5,zA 29 (.call 92 [(.t 28,(some 1))]),zM 4 29] false [4] []) .ret)
def ic77 : IC := (.seq (.reg [zA 4 (.mv (.c .nil))] false [0,1] []) (.seq (.reg [zM 8 0,zA 9 (.len false (.t 8)),zM 10 1,zA 11 (.len false (.t 10)),zA 12 (.bin .add none (.t 9) (.t 11)),zA 13 (.bin .add none (.t 12) (.c (.int .i64 1))),zA 14 (.mk 94 4 (.int .u32 0) (.t 13) (.t 13)),zM 5 14] false [0,1,5] [14]) (.seq (.seq (.reg [zM 15 1,zA 16 (.len false (.t 15)),zI 17 0] false [0,5,15,16,17] [14]) (.block 0 (.loop ic77_2))) ic77_3)))
def kp77 : List (Nat × Keep) := [(0, ⟨[0, 1], [], []⟩),
  (1, ⟨[0, 1, 5], [14], []⟩),
  (2, ⟨[0, 5, 15, 16, 17], [14], []⟩),
  (3, ⟨[0, 5, 15, 16, 17, 18], [14], []⟩),
  (4, ⟨[0, 5, 6, 7, 15, 16, 17], [14], []⟩),
  (5, ⟨[0, 5, 15, 16, 17], [14], []⟩),
  (6, ⟨[0, 5, 15, 16, 17], [14], []⟩),
  (7, ⟨[4], [], []⟩)]
theorem c77 : (Tryz.f77.body.bind fun c => compC Tryz.prog 30 [1000105] kp77 c) = some ic77 := by kernel_rfl
theorem e77 {args : List AV} {r : AV} (ha : args.length ≤ 30) (h : VC e0 ic77 (retQ [(4, none)] r) ⟨argT 0 args, []⟩) : Fn 77 args r := fn_of Tryz.func77 rfl (by kernel_rfl) c77 ha (by decide) h
def ic78 : IC := (.seq (.reg [zA 2 (.box 23 (.t 0)),zA 4 (.mv (.c .nil)),zA 5 (.mv (.c .nil))] false [1,2] [2]) (.seq (.reg [zK 6 3 2,zC 7 72 6,zM 8 1,zG 9 2 2,zL 10 9,zA 11 (.bin .sub none (.t 8) (.t 10)),zA 12 (.call 106 [(.t 7,(some 1)),(.t 11,none)]),zE 13 12 0,zE 14 12 1,zM 4 13,zM 5 14] true [4,5] []) .ret))
def kp78 : List (Nat × Keep) := [(0, ⟨[1, 2], [2], []⟩),
  (1, ⟨[4, 5], [], []⟩)]
theorem c78 : (Tryz.f78.body.bind fun c => compC Tryz.prog 15 [] kp78 c) = some ic78 := by kernel_rfl
theorem e78 {args : List AV} {r : AV} (ha : args.length ≤ 15) (h : VC e0 ic78 (retQ [(4, none), (5, none)] r) ⟨argT 0 args, []⟩) : Fn 78 args r := fn_of Tryz.func78 rfl (by kernel_rfl) c78 ha (by decide) h
def ic80_1 : IC := (.seq (.reg [zM 7 1,zG 8 2 2,zL 9 8,zA 10 (.bin .sub none (.t 7) (.t 9)),zA 11 (.mx (.c (.int .i64 0)) (.t 10)),zM 4 11] false [4] []) .ret)
def ic80 : IC := (.seq (.reg [zA 2 (.box 23 (.t 0)),zI 4 0] false [1,2] [2]) (.seq (.seq (.reg [zK 5 3 2,zC 6 81 5] false [1,2,6] [2]) (.cond (.t 6) (.seq (.reg [zI 4 0] false [4] []) .ret) .skip)) ic80_1))
def kp80 : List (Nat × Keep) := [(0, ⟨[1, 2], [2], []⟩),
  (1, ⟨[1, 2, 6], [2], []⟩),
  (2, ⟨[4], [], []⟩),
  (3, ⟨[4], [], []⟩)]
theorem c80 : (Tryz.f80.body.bind fun c => compC Tryz.prog 12 [] kp80 c) = some ic80 := by kernel_rfl
theorem e80 {args : List AV} {r : AV} (ha : args.length ≤ 12) (h : VC e0 ic80 (retQ [(4, none)] r) ⟨argT 0 args, []⟩) : Fn 80 args r := fn_of Tryz.func80 rfl (by kernel_rfl) c80 ha (by decide) h
def ic81 : IC := (.seq (.reg [zA 1 (.box 23 (.t 0)),zA 2 (.mv (.c (.bool false)))] false [1] [1]) (.seq (.reg [zK 3 3 1,zC 4 65 3,zA 5 (.fld 1 none (.t 4)),zA 6 (.bin .eql none (.t 5) (.c (.str [48]))),zM 2 6] false [2] []) .ret))
def kp81 : List (Nat × Keep) := [(0, ⟨[1], [1], []⟩),
  (1, ⟨[2], [], []⟩)]
theorem c81 : (Tryz.f81.body.bind fun c => compC Tryz.prog 7 [] kp81 c) = some ic81 := by kernel_rfl
theorem e81 {args : List AV} {r : AV} (ha : args.length ≤ 7) (h : VC e0 ic81 (retQ [(2, none)] r) ⟨argT 0 args, []⟩) : Fn 81 args r := fn_of Tryz.func81 rfl (by kernel_rfl) c81 ha (by decide) h
def ic83_1 : IC := (.seq (.reg [zM 15 5,zM 16 1,zA 17 (.bin .mul none (.t 15) (.t 16)),zM 4 17] false [4] []) .ret)
def ic83 : IC := (.seq (.reg [zI 4 0] false [0,1] []) (.seq (.reg [zM 6 0,zM 7 1,zA 8 (.bin .quo none (.t 6) (.t 7)),zM 5 8] false [0,1,5] []) (.seq (.seq (.reg [zM 9 0,zM 10 1,zA 11 (.bin .rem none (.t 9) (.t 10)),zA 12 (.bin .lss none (.t 11) (.c (.int .i64 0)))] false [1,5,12] []) (.cond (.t 12) (.reg [zM 13 5,zA 14 (.bin .sub none (.t 13) (.c (.int .i64 1))),zM 5 14] false [1,5] []) .skip)) ic83_1)))
def kp83 : List (Nat × Keep) := [(0, ⟨[0, 1], [], []⟩),
  (1, ⟨[0, 1, 5], [], []⟩),
  (2, ⟨[1, 5, 12], [], []⟩),
  (3, ⟨[1, 5], [], []⟩),
  (4, ⟨[4], [], []⟩)]
theorem c83 : (Tryz.f83.body.bind fun c => compC Tryz.prog 18 [] kp83 c) = some ic83 := by kernel_rfl
theorem e83 {args : List AV} {r : AV} (ha : args.length ≤ 18) (h : VC e0 ic83 (retQ [(4, none)] r) ⟨argT 0 args, []⟩) : Fn 83 args r := fn_of Tryz.func83 rfl (by kernel_rfl) c83 ha (by decide) h
def ic96 : IC := (.seq (.reg [zA 6 (.mv (.c .nil))] false [0,1,2] []) (.seq (.reg [zM 8 0,zA 9 (.len false (.t 8)),zA 10 (.bin .add none (.t 9) (.c (.int .i64 2))),zA 11 (.mk 94 4 (.int .u32 0) (.t 10) (.t 10)),zM 7 11] false [0,1,2,7] [11]) (.seq (.reg [zM 12 7,zM 13 2,zA 14 (.ia 1 (.t 12) (.c (.int .i64 0))),zS 1 14 13] false [0,1,7] [11]) (.seq (.reg [zM 15 7,zM 16 0,zM 17 1,zA 18 (.callm 105 (.t 15) [(.t 16,(some 1)),(.t 17,none),((.c (.int .i64 0)),none)])] false [7] [11]) (.seq (.reg [zM 19 7,zA 20 (.call 92 [(.t 19,(some 1))]),zM 6 20] false [6] []) .ret)))))
def kp96 : List (Nat × Keep) := [(0, ⟨[0, 1, 2], [], []⟩),
  (1, ⟨[0, 1, 2, 7], [11], []⟩),
  (2, ⟨[0, 1, 7], [11], []⟩),
  (3, ⟨[7], [11], []⟩),
  (4, ⟨[6], [], []⟩)]
theorem c96 : (Tryz.f96.body.bind fun c => compC Tryz.prog 21 [1000105] kp96 c) = some ic96 := by kernel_rfl
theorem e96 {args : List AV} {r : AV} (ha : args.length ≤ 21) (h : VC e0 ic96 (retQ [(6, none)] r) ⟨argT 0 args, []⟩) : Fn 96 args r := fn_of Tryz.func96 rfl (by kernel_rfl) c96 ha (by decide) h
def ic97_1 : IC := (.block 1 (.seq (.reg [zM 15 6,zM 16 7,zA 17 (.bin .add none (.t 15) (.t 16)),zA 18 (.bin .quo none (.t 17) (.c (.int .u32 2))),zM 8 18] false [0,1,6,7,8] []) (.seq (.reg [zM 19 1,zM 20 8,zA 21 (.call 96 [(.t 19,(some 1)),(.t 20,none),((.c (.int .u32 0)),none)]),zM 22 0,zA 23 (.call 74 [(.t 21,(some 1)),(.t 22,(some 1))]),zA 24 (.bin .leq none (.t 23) (.c (.int .i64 0)))] false [0,1,6,7,8,24] []) (.cond (.t 24) (.reg [zM 25 8,zM 6 25] false [0,1,6,7] []) (.reg [zM 26 8,zM 7 26] false [0,1,6,7] [])))))
def ic97_2 : IC := (.seq (.seq (.reg [zM 11 7,zM 12 6,zA 13 (.bin .sub none (.t 11) (.t 12)),zA 14 (.bin .gtr none (.t 13) (.c (.int .u32 1)))] false [0,1,6,7,14] []) (.cond (.t 14) .skip (.exit 0))) ic97_1)
def ic97_3 : IC := (.seq (.reg [zM 28 0,zM 29 1,zM 30 6,zA 31 (.call 96 [(.t 29,(some 1)),(.t 30,none),((.c (.int .u32 0)),none)]),zA 32 (.call 121 [(.t 28,(some 1)),(.t 31,(some 1))]),zM 27 32,zE 33 27 0,zE 34 27 1,zM 9 33,zM 10 34] false [6,9] []) (.seq (.reg [zM 35 6,zM 36 9,zM 4 35,zM 5 36] false [4,5] []) .ret))
def ic97 : IC := (.seq (.reg [zA 4 (.mv (.c (.int .u32 0))),zA 5 (.mv (.c .nil))] false [0,1] []) (.seq (.reg [zA 6 (.mv (.c (.int .u32 0))),zA 7 (.mv (.c (.int .u32 1000000000)))] false [0,1,6,7] []) (.seq (.block 0 (.loop ic97_2)) ic97_3)))
def kp97 : List (Nat × Keep) := [(0, ⟨[0, 1], [], []⟩),
  (1, ⟨[0, 1, 6, 7], [], []⟩),
  (2, ⟨[0, 1, 6, 7, 14], [], []⟩),
  (3, ⟨[0, 1, 6, 7, 8], [], []⟩),
  (4, ⟨[0, 1, 6, 7, 8, 24], [], []⟩),
  (5, ⟨[0, 1, 6, 7], [], []⟩),
  (6, ⟨[0, 1, 6, 7], [], []⟩),
  (7, ⟨[6, 9], [], []⟩),
  (8, ⟨[4, 5], [], []⟩)]
theorem c97 : (Tryz.f97.body.bind fun c => compC Tryz.prog 37 [] kp97 c) = some ic97 := by kernel_rfl
theorem e97 {args : List AV} {r : AV} (ha : args.length ≤ 37) (h : VC e0 ic97 (retQ [(4, none), (5, none)] r) ⟨argT 0 args, []⟩) : Fn 97 args r := fn_of Tryz.func97 rfl (by kernel_rfl) c97 ha (by decide) h
def ic98_1 : IC := (.block 1 (.reg [zM 16 3,zA 17 (.bin .sub none (.t 16) (.c (.int .i64 1))),zM 3 17] false [0,3] []))
def ic98_2 : IC := (.seq (.seq (.reg [zM 6 3,zA 7 (.bin .gtr none (.t 6) (.c (.int .i64 0))),zM 8 7,zT 8 9 (.mv (.t 0)),zT 8 10 (.mv (.t 3)),zT 8 11 (.bin .sub none (.t 10) (.c (.int .i64 1))),zT 8 12 (.ia 1 (.t 9) (.t 11)),zT 8 13 (.ld none (.t 12)),zT 8 14 (.bin .eql none (.t 13) (.c (.int .u32 0))),zA 15 (.pick (.t 8) (.t 14) (.c (.bool false)))] false [0,3,15] []) (.cond (.t 15) .skip (.exit 0))) ic98_1)
def ic98_3 : IC := (.seq (.reg [zM 18 3,zM 2 18] false [2] []) .ret)
def ic98 : IC := (.seq (.reg [zI 2 0] false [0] []) (.seq (.reg [zM 4 0,zA 5 (.len false (.t 4)),zM 3 5] false [0,3] []) (.seq (.block 0 (.loop ic98_2)) ic98_3)))
def kp98 : List (Nat × Keep) := [(0, ⟨[0], [], []⟩),
  (1, ⟨[0, 3], [], []⟩),
  (2, ⟨[0, 3, 15], [], []⟩),
  (3, ⟨[0, 3], [], []⟩),
  (4, ⟨[2], [], []⟩)]
theorem c98 : (Tryz.f98.body.bind fun c => compC Tryz.prog 19 [] kp98 c) = some ic98 := by kernel_rfl
theorem e98 {args : List AV} {r : AV} (ha : args.length ≤ 19) (h : VC e0 ic98 (retQ [(2, none)] r) ⟨argT 0 args, []⟩) : Fn 98 args r := fn_of Tryz.func98 rfl (by kernel_rfl) c98 ha (by decide) h
def ic99_1 : IC := (.seq (.reg [zA 4 (.mv (.c (.int .i64 (-1))))] false [4] []) .ret)
def ic99_2 : IC := (.seq (.reg [zI 4 0] false [4] []) .ret)
def ic99_3 : IC := (.seq (.seq (.reg [zM 17 0,zM 18 1,zA 19 (.bin .gtr none (.t 17) (.t 18))] false [19] []) (.cond (.t 19) (.seq (.reg [zI 4 1] false [4] []) .ret) .skip)) ic99_2)
def ic99_4 : IC := (.seq (.seq (.reg [zM 14 0,zM 15 1,zA 16 (.bin .lss none (.t 14) (.t 15))] false [0,1,16] []) (.cond (.t 16) (.seq (.reg [zA 4 (.mv (.c (.int .i64 (-1))))] false [4] []) .ret) .skip)) ic99_3)
def ic99_5 : IC := (.seq (.seq (.reg [zM 13 6] false [0,1,13] []) (.cond (.t 13) (.seq (.reg [zI 4 1] false [4] []) .ret) .skip)) ic99_4)
def ic99 : IC := (.seq (.reg [zI 4 0] false [0,1] []) (.seq (.reg [zM 7 0,zC 8 132 7,zM 5 8] false [0,1,5] []) (.seq (.reg [zM 9 1,zC 10 132 9,zM 6 10] false [0,1,5,6] []) (.seq (.seq (.reg [zM 11 5] false [0,1,6,11] []) (.cond (.t 11) (.seq (.seq (.reg [zM 12 6] false [12] []) (.cond (.t 12) (.seq (.reg [zI 4 0] false [4] []) .ret) .skip)) ic99_1) .skip)) ic99_5))))
def kp99 : List (Nat × Keep) := [(0, ⟨[0, 1], [], []⟩),
  (1, ⟨[0, 1, 5], [], []⟩),
  (2, ⟨[0, 1, 5, 6], [], []⟩),
  (3, ⟨[0, 1, 6, 11], [], []⟩),
  (4, ⟨[12], [], []⟩),
  (5, ⟨[4], [], []⟩),
  (6, ⟨[4], [], []⟩),
  (7, ⟨[0, 1, 13], [], []⟩),
  (8, ⟨[4], [], []⟩),
  (9, ⟨[0, 1, 16], [], []⟩),
  (10, ⟨[4], [], []⟩),
  (11, ⟨[19], [], []⟩),
  (12, ⟨[4], [], []⟩),
  (13, ⟨[4], [], []⟩)]
theorem c99 : (Tryz.f99.body.bind fun c => compC Tryz.prog 20 [] kp99 c) = some ic99 := by kernel_rfl
theorem e99 {args : List AV} {r : AV} (ha : args.length ≤ 20) (h : VC e0 ic99 (retQ [(4, none)] r) ⟨argT 0 args, []⟩) : Fn 99 args r := fn_of Tryz.func99 rfl (by kernel_rfl) c99 ha (by decide) h
def ic100_1 : IC := (.seq (.reg [zA 4 (.mv (.c (.int .i64 (-1))))] false [4] []) .ret)
def ic100_2 : IC := (.seq (.reg [zI 4 0] false [4] []) .ret)
def ic100_3 : IC := (.seq (.seq (.reg [zM 17 0,zM 18 1,zA 19 (.bin .gtr none (.t 17) (.t 18))] false [19] []) (.cond (.t 19) (.seq (.reg [zI 4 1] false [4] []) .ret) .skip)) ic100_2)
def ic100_4 : IC := (.seq (.seq (.reg [zM 14 0,zM 15 1,zA 16 (.bin .lss none (.t 14) (.t 15))] false [0,1,16] []) (.cond (.t 16) (.seq (.reg [zA 4 (.mv (.c (.int .i64 (-1))))] false [4] []) .ret) .skip)) ic100_3)
def ic100_5 : IC := (.seq (.seq (.reg [zM 13 6] false [0,1,13] []) (.cond (.t 13) (.seq (.reg [zI 4 1] false [4] []) .ret) .skip)) ic100_4)
def ic100 : IC := (.seq (.reg [zI 4 0] false [0,1] []) (.seq (.reg [zM 7 0,zC 8 133 7,zM 5 8] false [0,1,5] []) (.seq (.reg [zM 9 1,zC 10 133 9,zM 6 10] false [0,1,5,6] []) (.seq (.seq (.reg [zM 11 5] false [0,1,6,11] []) (.cond (.t 11) (.seq (.seq (.reg [zM 12 6] false [12] []) (.cond (.t 12) (.seq (.reg [zI 4 0] false [4] []) .ret) .skip)) ic100_1) .skip)) ic100_5))))
def kp100 : List (Nat × Keep) := [(0, ⟨[0, 1], [], []⟩),
  (1, ⟨[0, 1, 5], [], []⟩),
  (2, ⟨[0, 1, 5, 6], [], []⟩),
  (3, ⟨[0, 1, 6, 11], [], []⟩),
  (4, ⟨[12], [], []⟩),
  (5, ⟨[4], [], []⟩),
  (6, ⟨[4], [], []⟩),
  (7, ⟨[0, 1, 13], [], []⟩),
  (8, ⟨[4], [], []⟩),
  (9, ⟨[0, 1, 16], [], []⟩),
  (10, ⟨[4], [], []⟩),
  (11, ⟨[19], [], []⟩),
  (12, ⟨[4], [], []⟩),
  (13, ⟨[4], [], []⟩)]
theorem c100 : (Tryz.f100.body.bind fun c => compC Tryz.prog 20 [] kp100 c) = some ic100 := by kernel_rfl
theorem e100 {args : List AV} {r : AV} (ha : args.length ≤ 20) (h : VC e0 ic100 (retQ [(4, none)] r) ⟨argT 0 args, []⟩) : Fn 100 args r := fn_of Tryz.func100 rfl (by kernel_rfl) c100 ha (by decide) h
def ic105_1 : IC := (.seq (.block 1 (.seq (.reg [zM 18 16,zA 19 (.ia 1 (.t 14) (.t 16)),zL 20 19,zM 9 18,zM 10 20] false [0,1,2,3,8,9,10,14,15,16] [999999]) (.seq (.reg [zM 21 0,zM 22 3,zM 23 9,zA 24 (.bin .add none (.t 22) (.t 23)),zA 25 (.ia 1 (.t 21) (.t 24)),zL 26 25,zA 27 (.conv .u64 (.t 26)),zM 28 10,zA 29 (.conv .u64 (.t 28)),zM 30 2,zA 31 (.conv .u64 (.t 30)),zA 32 (.bin .mul none (.t 29) (.t 31)),zA 33 (.bin .add none (.t 27) (.t 32)),zM 34 8,zA 35 (.bin .add none (.t 33) (.t 34)),zM 11 35] false [0,1,2,3,9,11,14,15,16] [999999]) (.seq (.reg [zM 36 0,zM 37 3,zM 38 9,zA 39 (.bin .add none (.t 37) (.t 38)),zM 40 11,zA 41 (.bin .rem none (.t 40) (.c (.int .u64 1000000000))),zA 42 (.conv .u32 (.t 41)),zA 43 (.ia 1 (.t 36) (.t 39)),zS 1 43 42] false [0,1,2,3,11,14,15,16] [999999]) (.reg [zM 44 11,zA 45 (.bin .quo none (.t 44) (.c (.int .u64 1000000000))),zM 8 45] false [0,1,2,3,8,14,15,16] [999999]))))) (.reg [zA 46 (.bin .add none (.t 16) (.c (.int .i64 1))),zM 16 46] false [0,1,2,3,8,14,15,16] [999999]))
def ic105_2 : IC := (.seq (.reg [zA 17 (.bin .lss none (.t 16) (.t 15))] false [0,1,2,3,8,14,15,16,17] [999999]) (.seq (.cond (.t 17) .skip (.exit 0)) ic105_1))
def ic105_3 : IC := (.seq (.block 3 (.seq (.reg [zM 55 0,zM 56 12,zA 57 (.ia 1 (.t 55) (.t 56)),zL 58 57,zA 59 (.conv .u64 (.t 58)),zM 60 8,zA 61 (.bin .add none (.t 59) (.t 60)),zM 13 61] false [0,12,13] [999999]) (.seq (.reg [zM 62 0,zM 63 12,zM 64 13,zA 65 (.bin .rem none (.t 64) (.c (.int .u64 1000000000))),zA 66 (.conv .u32 (.t 65)),zA 67 (.ia 1 (.t 62) (.t 63)),zS 1 67 66] false [0,12,13] [999999]) (.reg [zM 68 13,zA 69 (.bin .quo none (.t 68) (.c (.int .u64 1000000000))),zM 8 69] false [0,8,12] [999999])))) (.reg [zM 53 12,zA 54 (.bin .add none (.t 53) (.c (.int .i64 1))),zM 12 54] false [0,8,12] [999999]))
def ic105_4 : IC := (.seq (.seq (.reg [zM 51 8,zA 52 (.bin .gtr none (.t 51) (.c (.int .u64 0)))] false [0,8,12,52] [999999]) (.cond (.t 52) .skip (.exit 2))) ic105_3)
def ic105_5 : IC := (.seq (.reg [zM 47 3,zM 48 1,zA 49 (.len false (.t 48)),zA 50 (.bin .add none (.t 47) (.t 49)),zM 12 50] false [0,8,12] [999999]) (.block 2 (.loop ic105_4)))
def ic105 : IC := (.seq (.reg [zA 8 (.mv (.c (.int .u64 0)))] false [0,1,2,3,8] [999999]) (.seq (.seq (.reg [zM 14 1,zA 15 (.len false (.t 14)),zI 16 0] false [0,1,2,3,8,14,15,16] [999999]) (.block 0 (.loop ic105_2))) ic105_5))
def kp105 : List (Nat × Keep) := [(0, ⟨[0, 1, 2, 3, 8], [999999], []⟩),
  (1, ⟨[0, 1, 2, 3, 8, 14, 15, 16], [999999], []⟩),
  (2, ⟨[0, 1, 2, 3, 8, 14, 15, 16, 17], [999999], []⟩),
  (3, ⟨[0, 1, 2, 3, 8, 9, 10, 14, 15, 16], [999999], []⟩),
  (4, ⟨[0, 1, 2, 3, 9, 11, 14, 15, 16], [999999], []⟩),
  (5, ⟨[0, 1, 2, 3, 11, 14, 15, 16], [999999], []⟩),
  (6, ⟨[0, 1, 2, 3, 8, 14, 15, 16], [999999], []⟩),
  (7, ⟨[0, 1, 2, 3, 8, 14, 15, 16], [999999], []⟩),
  (8, ⟨[0, 8, 12], [999999], []⟩),
  (9, ⟨[0, 8, 12, 52], [999999], []⟩),
  (10, ⟨[0, 8, 12], [999999], []⟩),
  (11, ⟨[0, 12, 13], [999999], []⟩),
  (12, ⟨[0, 12, 13], [999999], []⟩),
  (13, ⟨[0, 8, 12], [999999], []⟩)]
theorem c105 : (Tryz.f105.body.bind fun c => compC Tryz.prog 70 [] kp105 c) = some ic105 := by kernel_rfl
theorem e105 {E sz : Nat} {xs args xs2 : List AV} (ha : args.length + 1 ≤ 70) (h : VC e0 ic105 (retM E sz xs2) ⟨(0, .own pinned) :: argT 1 args, [(pinned, .row E sz xs)]⟩) : ConM Tryz.prog gs 105 E sz xs args xs2 := fnM_of Tryz.func105 rfl rfl c105 ha (by decide) h
def ic106_1 : IC := (.seq (.reg [zM 24 0,zM 25 6,zA 26 (.sls 1 (.t 24) (some (.t 25)) none),zM 27 1,zA 28 (.bin .rem none (.t 27) (.c (.int .i64 9))),zA 29 (.ga 1 9 (.g 0) (.t 28)),zL 30 29,zA 31 (.call 136 [(.t 26,(some 1)),(.t 30,none)]),zM 23 31,zE 32 23 0,zE 33 23 1,zE 34 23 2,zM 4 32,zM 7 33,zM 8 34] true [0,4,6,7] []) (.seq (.reg [zM 35 4,zM 36 0,zM 37 6,zA 38 (.sls 1 (.t 36) none (some (.t 37))),zA 39 (.call 137 [(.t 38,(some 1))]),zM 40 7,zA 41 (.lit false 94 1 [(.t 40)]),zA 42 (.app 94 1 4 (.t 39) (.t 41)),zA 43 (.call 92 [(.t 42,(some 1))]),zM 4 35,zM 5 43] false [4,5] []) .ret))
def ic106 : IC := (.seq (.reg [zA 4 (.mv (.c .nil)),zA 5 (.mv (.c .nil))] false [0,1] []) (.seq (.reg [zM 9 1,zA 10 (.mx (.t 9) (.c (.int .i64 0))),zM 1 10] false [0,1] []) (.seq (.reg [zM 11 1,zA 12 (.bin .quo none (.t 11) (.c (.int .i64 9))),zM 13 0,zA 14 (.len false (.t 13)),zA 15 (.mn (.t 12) (.t 14)),zM 6 15] false [0,1,6] []) (.seq (.seq (.reg [zM 16 1,zA 17 (.bin .quo none (.t 16) (.c (.int .i64 9))),zM 18 0,zA 19 (.len false (.t 18)),zA 20 (.bin .gtr none (.t 17) (.t 19))] false [0,1,6,20] []) (.cond (.t 20) (.seq (.reg [zM 21 0,zA 22 (.call 92 [(.t 21,(some 1))]),zA 4 (.mv (.c .nil)),zM 5 22] false [4,5] []) .ret) .skip)) ic106_1))))
def kp106 : List (Nat × Keep) := [(0, ⟨[0, 1], [], []⟩),
  (1, ⟨[0, 1], [], []⟩),
  (2, ⟨[0, 1, 6], [], []⟩),
  (3, ⟨[0, 1, 6, 20], [], []⟩),
  (4, ⟨[4, 5], [], []⟩),
  (5, ⟨[0, 4, 6, 7], [], []⟩),
  (6, ⟨[4, 5], [], []⟩)]
theorem c106 : (Tryz.f106.body.bind fun c => compC Tryz.prog 44 [] kp106 c) = some ic106 := by kernel_rfl
theorem e106 {args : List AV} {r : AV} (ha : args.length ≤ 44) (h : VC e0 ic106 (retQ [(4, none), (5, none)] r) ⟨argT 0 args, []⟩) : Fn 106 args r := fn_of Tryz.func106 rfl (by kernel_rfl) c106 ha (by decide) h
def ic112_1 : IC := (.seq (.reg [zG 20 1 2,zL 21 20,zA 22 (.len true (.t 21)),zA 23 (.bin .sub none (.t 22) (.c (.int .i64 1))),zM 24 1,zG 25 2 2,zL 26 25,zA 27 (.bin .sub none (.t 24) (.t 26)),zA 28 (.bin .sub none (.t 23) (.t 27)),zM 5 28] false [2,5] [2]) (.seq (.reg [zG 29 1 2,zL 30 29,zM 31 5,zA 32 (.ix (.t 30) (.t 31)),zA 33 (.bin .sub none (.t 32) (.c (.int .u8 48))),zA 34 (.conv .i64 (.t 33)),zM 4 34] false [4] []) .ret))
def ic112 : IC := (.seq (.reg [zA 2 (.box 23 (.t 0)),zI 4 0] false [1,2] [2]) (.seq (.seq (.reg [zM 6 1,zG 7 2 2,zL 8 7,zA 9 (.bin .lss none (.t 6) (.t 8)),zM 10 9,zF 10 11 (.mv (.t 1)),zF 10 12 (.fa 2 none (.t 2)),zF 10 13 (.ld none (.t 12)),zF 10 14 (.fa 1 none (.t 2)),zF 10 15 (.ld none (.t 14)),zF 10 16 (.len true (.t 15)),zF 10 17 (.bin .add none (.t 13) (.t 16)),zF 10 18 (.bin .geq none (.t 11) (.t 17)),zA 19 (.pick (.t 10) (.c (.bool true)) (.t 18))] false [1,2,19] [2]) (.cond (.t 19) (.seq (.reg [zI 4 0] false [4] []) .ret) .skip)) ic112_1))
def kp112 : List (Nat × Keep) := [(0, ⟨[1, 2], [2], []⟩),
  (1, ⟨[1, 2, 19], [2], []⟩),
  (2, ⟨[4], [], []⟩),
  (3, ⟨[2, 5], [2], []⟩),
  (4, ⟨[4], [], []⟩)]
theorem c112 : (Tryz.f112.body.bind fun c => compC Tryz.prog 35 [] kp112 c) = some ic112 := by kernel_rfl
theorem e112 {args : List AV} {r : AV} (ha : args.length ≤ 35) (h : VC e0 ic112 (retQ [(4, none)] r) ⟨argT 0 args, []⟩) : Fn 112 args r := fn_of Tryz.func112 rfl (by kernel_rfl) c112 ha (by decide) h
def ic121_1 : IC := (.reg [zM 45 6,zM 46 9,zM 47 10,zA 48 (.bin .sub none (.t 46) (.t 47)),zA 49 (.lit false 94 1 [(.t 48)]),zA 50 (.app 94 1 4 (.t 45) (.t 49)),zM 6 50] false [1,6,7,22,23,24] [21,50])
def ic121_2 : IC := (.seq (.reg [zA 7 (.mv (.c (.int .u32 0)))] false [1,6,7,9,10,22,23,24] [21,50]) (.seq (.seq (.reg [zM 40 9,zM 41 10,zA 42 (.bin .lss none (.t 40) (.t 41))] false [1,6,7,9,10,22,23,24,42] [21,50]) (.cond (.t 42) (.seq (.reg [zM 43 9,zA 44 (.bin .add none (.t 43) (.c (.int .u32 1000000000))),zM 9 44] false [1,6,9,10,22,23,24] [21,50]) (.reg [zA 7 (.mv (.c (.int .u32 1)))] false [1,6,7,9,10,22,23,24] [21,50])) .skip)) ic121_1))
def ic121_3 : IC := (.reg [zA 51 (.bin .add none (.t 24) (.c (.int .i64 1))),zM 24 51] false [1,6,7,22,23,24] [21,50])
def ic121_4 : IC := (.seq (.block 1 (.seq (.reg [zM 26 24,zA 27 (.ia 1 (.t 22) (.t 24)),zL 28 27,zM 8 26,zM 9 28] false [1,6,7,8,9,22,23,24] [21,50]) (.seq (.reg [zM 29 7,zM 10 29] false [1,6,8,9,10,22,23,24] [21,50]) (.seq (.seq (.reg [zM 30 8,zM 31 1,zA 32 (.len false (.t 31)),zA 33 (.bin .lss none (.t 30) (.t 32))] false [1,6,8,9,10,22,23,24,33] [21,50]) (.cond (.t 33) (.reg [zM 34 10,zM 35 1,zM 36 8,zA 37 (.ia 1 (.t 35) (.t 36)),zL 38 37,zA 39 (.bin .add none (.t 34) (.t 38)),zM 10 39] false [1,6,9,10,22,23,24] [21,50]) .skip)) ic121_2)))) ic121_3)
def ic121_5 : IC := (.seq (.reg [zA 25 (.bin .lss none (.t 24) (.t 23))] false [1,6,7,22,23,24,25] [21,50]) (.seq (.cond (.t 25) .skip (.exit 0)) ic121_4))
def ic121_6 : IC := (.seq (.reg [zM 52 6,zA 53 (.call 92 [(.t 52,(some 1))]),zM 4 53,zA 5 (.mv (.c (.bool true)))] false [4,5] []) .ret)
def ic121_7 : IC := (.seq (.reg [zM 15 1,zM 16 1,zA 17 (.call 98 [(.t 16,(some 1))]),zA 18 (.sls 1 (.t 15) none (some (.t 17))),zM 1 18] false [0,1] []) (.seq (.reg [zM 19 0,zA 20 (.len false (.t 19)),zA 21 (.mk 94 4 (.int .u32 0) (.c (.int .i64 0)) (.t 20)),zM 6 21] false [0,1,6] [21,50]) (.seq (.reg [zA 7 (.mv (.c (.int .u32 0)))] false [0,1,6,7] [21,50]) (.seq (.seq (.reg [zM 22 0,zA 23 (.len false (.t 22)),zI 24 0] false [1,6,7,22,23,24] [21,50]) (.block 0 (.loop ic121_5))) ic121_6))))
def ic121 : IC := (.seq (.reg [zA 4 (.mv (.c .nil)),zA 5 (.mv (.c (.bool false)))] false [0,1] []) (.seq (.seq (.reg [zM 11 0,zM 12 1,zA 13 (.call 74 [(.t 11,(some 1)),(.t 12,(some 1))]),zA 14 (.bin .lss none (.t 13) (.c (.int .i64 0)))] false [0,1,14] []) (.cond (.t 14) (.seq (.reg [zA 4 (.mv (.c .nil)),zA 5 (.mv (.c (.bool false)))] false [4,5] []) .ret) .skip)) ic121_7))
def kp121 : List (Nat × Keep) := [(0, ⟨[0, 1], [], []⟩),
  (1, ⟨[0, 1, 14], [], []⟩),
  (2, ⟨[4, 5], [], []⟩),
  (3, ⟨[0, 1], [], []⟩),
  (4, ⟨[0, 1, 6], [21, 50], []⟩),
  (5, ⟨[0, 1, 6, 7], [21, 50], []⟩),
  (6, ⟨[1, 6, 7, 22, 23, 24], [21, 50], []⟩),
  (7, ⟨[1, 6, 7, 22, 23, 24, 25], [21, 50], []⟩),
  (8, ⟨[1, 6, 7, 8, 9, 22, 23, 24], [21, 50], []⟩),
  (9, ⟨[1, 6, 8, 9, 10, 22, 23, 24], [21, 50], []⟩),
  (10, ⟨[1, 6, 8, 9, 10, 22, 23, 24, 33], [21, 50], []⟩),
  (11, ⟨[1, 6, 9, 10, 22, 23, 24], [21, 50], []⟩),
  (12, ⟨[1, 6, 7, 9, 10, 22, 23, 24], [21, 50], []⟩),
  (13, ⟨[1, 6, 7, 9, 10, 22, 23, 24, 42], [21, 50], []⟩),
  (14, ⟨[1, 6, 9, 10, 22, 23, 24], [21, 50], []⟩),
  (15, ⟨[1, 6, 7, 9, 10, 22, 23, 24], [21, 50], []⟩),
  (16, ⟨[1, 6, 7, 22, 23, 24], [21, 50], []⟩),
  (17, ⟨[1, 6, 7, 22, 23, 24], [21, 50], []⟩),
  (18, ⟨[4, 5], [], []⟩)]
theorem c121 : (Tryz.f121.body.bind fun c => compC Tryz.prog 54 [] kp121 c) = some ic121 := by kernel_rfl
theorem e121 {args : List AV} {r : AV} (ha : args.length ≤ 54) (h : VC e0 ic121 (retQ [(4, none), (5, none)] r) ⟨argT 0 args, []⟩) : Fn 121 args r := fn_of Tryz.func121 rfl (by kernel_rfl) c121 ha (by decide) h
def ic132 : IC := (.seq (.reg [zA 2 (.mv (.c (.bool false)))] false [0] []) (.seq (.reg [zM 3 0,zM 4 0,zA 5 (.bin .neq none (.t 3) (.t 4)),zM 2 5] false [2] []) .ret))
def kp132 : List (Nat × Keep) := [(0, ⟨[0], [], []⟩),
  (1, ⟨[2], [], []⟩)]
theorem c132 : (Tryz.f132.body.bind fun c => compC Tryz.prog 6 [] kp132 c) = some ic132 := by kernel_rfl
theorem e132 {args : List AV} {r : AV} (ha : args.length ≤ 6) (h : VC e0 ic132 (retQ [(2, none)] r) ⟨argT 0 args, []⟩) : Fn 132 args r := fn_of Tryz.func132 rfl (by kernel_rfl) c132 ha (by decide) h
def ic133 : IC := (.seq (.reg [zA 2 (.mv (.c (.bool false)))] false [0] []) (.seq (.reg [zM 3 0,zM 4 0,zA 5 (.bin .neq none (.t 3) (.t 4)),zM 2 5] false [2] []) .ret))
def kp133 : List (Nat × Keep) := [(0, ⟨[0], [], []⟩),
  (1, ⟨[2], [], []⟩)]
theorem c133 : (Tryz.f133.body.bind fun c => compC Tryz.prog 6 [] kp133 c) = some ic133 := by kernel_rfl
theorem e133 {args : List AV} {r : AV} (ha : args.length ≤ 6) (h : VC e0 ic133 (retQ [(2, none)] r) ⟨argT 0 args, []⟩) : Fn 133 args r := fn_of Tryz.func133 rfl (by kernel_rfl) c133 ha (by decide) h
def ic136_1 : IC := (.seq (.block 1 (.seq (.reg [zM 21 7,zA 22 (.bin .mul none (.t 21) (.c (.int .u64 1000000000))),zM 23 0,zM 24 8,zA 25 (.ia 1 (.t 23) (.t 24)),zL 26 25,zA 27 (.conv .u64 (.t 26)),zA 28 (.bin .add none (.t 22) (.t 27)),zM 7 28] false [0,1,4,7,8] [13]) (.seq (.reg [zM 29 4,zM 30 8,zM 31 7,zM 32 1,zA 33 (.conv .u64 (.t 32)),zA 34 (.bin .quo none (.t 31) (.t 33)),zA 35 (.conv .u32 (.t 34)),zA 36 (.ia 1 (.t 29) (.t 30)),zS 1 36 35] false [0,1,4,7,8] [13]) (.reg [zM 37 7,zM 38 1,zA 39 (.conv .u64 (.t 38)),zA 40 (.bin .rem none (.t 37) (.t 39)),zM 7 40] false [0,1,4,7,8] [13])))) (.reg [zM 19 8,zA 20 (.bin .sub none (.t 19) (.c (.int .i64 1))),zM 8 20] false [0,1,4,7,8] [13]))
def ic136_2 : IC := (.seq (.seq (.reg [zM 17 8,zA 18 (.bin .geq none (.t 17) (.c (.int .i64 0)))] false [0,1,4,7,8,18] [13]) (.cond (.t 18) .skip (.exit 0))) ic136_1)
def ic136_3 : IC := (.seq (.reg [zM 41 4,zA 42 (.call 92 [(.t 41,(some 1))]),zM 43 7,zA 44 (.conv .u32 (.t 43)),zM 4 42,zM 5 44,zA 6 (.mv (.c (.bool true)))] false [4,5,6] [13]) .ret)
def ic136_4 : IC := (.seq (.reg [zM 11 0,zA 12 (.len false (.t 11)),zA 13 (.mk 94 4 (.int .u32 0) (.t 12) (.t 12)),zM 4 13] false [0,1,4] [13]) (.seq (.reg [zA 7 (.mv (.c (.int .u64 0)))] false [0,1,4,7] [13]) (.seq (.seq (.reg [zM 14 0,zA 15 (.len false (.t 14)),zA 16 (.bin .sub none (.t 15) (.c (.int .i64 1))),zM 8 16] false [0,1,4,7,8] [13]) (.block 0 (.loop ic136_2))) ic136_3)))
def ic136 : IC := (.seq (.reg [zA 4 (.mv (.c .nil)),zA 5 (.mv (.c (.int .u32 0))),zA 6 (.mv (.c (.bool false)))] false [0,1] []) (.seq (.seq (.reg [zM 9 1,zA 10 (.bin .eql none (.t 9) (.c (.int .u32 0)))] false [0,1,10] []) (.cond (.t 10) (.seq (.reg [zA 4 (.mv (.c .nil)),zA 5 (.mv (.c (.int .u32 0))),zA 6 (.mv (.c (.bool false)))] false [4,5,6] [13]) .ret) .skip)) ic136_4))
def kp136 : List (Nat × Keep) := [(0, ⟨[0, 1], [], []⟩),
  (1, ⟨[0, 1, 10], [], []⟩),
  (2, ⟨[4, 5, 6], [13], []⟩),
  (3, ⟨[0, 1, 4], [13], []⟩),
  (4, ⟨[0, 1, 4, 7], [13], []⟩),
  (5, ⟨[0, 1, 4, 7, 8], [13], []⟩),
  (6, ⟨[0, 1, 4, 7, 8, 18], [13], []⟩),
  (7, ⟨[0, 1, 4, 7, 8], [13], []⟩),
  (8, ⟨[0, 1, 4, 7, 8], [13], []⟩),
  (9, ⟨[0, 1, 4, 7, 8], [13], []⟩),
  (10, ⟨[0, 1, 4, 7, 8], [13], []⟩),
  (11, ⟨[4, 5, 6], [13], []⟩)]
theorem c136 : (Tryz.f136.body.bind fun c => compC Tryz.prog 45 [] kp136 c) = some ic136 := by kernel_rfl
theorem e136 {args : List AV} {r : AV} (ha : args.length ≤ 45) (h : VC e0 ic136 (retQ [(4, none), (5, none), (6, none)] r) ⟨argT 0 args, []⟩) : Fn 136 args r := fn_of Tryz.func136 rfl (by kernel_rfl) c136 ha (by decide) h
abbrev i64 (n : Int) : AV := .int .i64 n
abbrev u32 (n : Nat) : AV := .int .u32 n
def L (xs : List Nat) : AV := .sl 1 (xs.map u32)
theorem wrap64 {x : Int} (h : -9223372036854775808 ≤ x) (h' : x < 9223372036854775808) : IntKind.i64.wrap x = x := by
  simp only [IntKind.wrap, IntKind.signed, IntKind.bits, Bool.true_and, decide_eq_true_eq, Nat.reduceSub, Int.reducePow, ge_iff_le]
  split <;> omega
theorem wrap32 {x : Int} (h : 0 ≤ x) (h' : x < 4294967296) : IntKind.u32.wrap x = x := by
  simp only [IntKind.wrap, IntKind.signed, IntKind.bits, Bool.false_and, Bool.false_eq_true, if_false]
  omega
theorem wrapU64 {x : Int} (h : 0 ≤ x) (h' : x < 18446744073709551616) : IntKind.u64.wrap x = x := by
  simp only [IntKind.wrap, IntKind.signed, IntKind.bits, Bool.false_and, Bool.false_eq_true, if_false]
  omega
theorem getL {xs : List Nat} {i : Nat} (h : i < xs.length) : (xs.map u32).getD i .top = .int .u32 (xs.getD i 0) := by
  simp [List.getD_eq_getElem?_getD, h]
theorem lenL (xs : List Nat) : (xs.map u32).length = xs.length := by simp
theorem mapTake (xs : List Nat) (n : Nat) : (xs.map u32).take n = (xs.take n).map u32 := List.map_take.symm
theorem mapDrop (xs : List Nat) (n : Nat) : (xs.map u32).drop n = (xs.drop n).map u32 := List.map_drop.symm
def trim (xs : List Nat) : List Nat := (xs.reverse.dropWhile (· == 0)).reverse
theorem trim_zero (xs : List Nat) : trim (xs ++ [0]) = trim xs := by simp [trim]
theorem trim_pos (xs : List Nat) {x : Nat} (h : x ≠ 0) : trim (xs ++ [x]) = xs ++ [x] := by simp [trim, h]
theorem trim_le (xs : List Nat) : (trim xs).length ≤ xs.length := by
  simp only [trim, List.length_reverse]
  exact Nat.le_trans (List.dropWhile_sublist _).length_le (by simp)
theorem take_last {xs : List Nat} {n : Nat} (h : n < xs.length) : xs.take (n + 1) = xs.take n ++ [xs.getD n 0] := by
  rw [List.take_add_one]; simp [List.getD_eq_getElem?_getD, h]
theorem con98 (xs : List Nat) (hl : xs.length < 1099511627776) : Fn 98 [L xs] (i64 (trim xs).length) := by
  refine e98 (by simp) ?_
  simp only [ic98, wkA, Nat.reduceEqDiff, Nat.reduceAdd, Nat.reduceSub, Nat.reduceLeDiff, Nat.reduceLT, Nat.reduceBEq, Nat.reduceBNe, reduceCtorEq, L, lenL]
  refine ⟨fun n s => s = ⟨[(0, L xs), (3, i64 n)], []⟩ ∧ n ≤ xs.length ∧ trim (xs.take n) = trim xs, xs.length, _, Gh.refl _, ⟨rfl, Nat.le_refl _, by simp⟩, ?_⟩
  rintro n s ⟨rfl, hn, ht⟩
  rcases n with _ | n
  · have h0 : decide (((0 : Nat) : Int) > 0) = false := decide_eq_false (by omega)
    simp only [ic98_2, ic98_3, h0, wkA, Nat.reduceEqDiff, Nat.reduceAdd, Nat.reduceSub, Nat.reduceLeDiff, Nat.reduceLT, Nat.reduceBEq, Nat.reduceBNe, reduceCtorEq, L, lenL]
    rw [← ht]; rfl
  · have h0 : decide (((n + 1 : Nat) : Int) > 0) = true := decide_eq_true (by omega)
    have h1 : IntKind.i64.wrap (((n + 1 : Nat) : Int) - 1) = n := by rw [wrap64] <;> omega
    simp only [ic98_2, ic98_1, ic98_3, wkA, Nat.reduceEqDiff, Nat.reduceAdd, Nat.reduceSub, Nat.reduceLeDiff, Nat.reduceLT, Nat.reduceBEq, Nat.reduceBNe, reduceCtorEq, L, lenL, h0, h1, Int.toNat_natCast, getL hn]
    refine ⟨⟨by omega, by omega⟩, ?_⟩
    rw [take_last hn] at ht
    rw [cnd_if]
    split
    · rename_i h
      have h : xs.getD n 0 = 0 := by simpa using h
      rw [h, trim_zero] at ht
      simp only [ic98_1, ic98_3, wkA, Nat.reduceEqDiff, Nat.reduceAdd, Nat.reduceSub, Nat.reduceLeDiff, Nat.reduceLT, Nat.reduceBEq, Nat.reduceBNe, reduceCtorEq, L, h1]
      exact ⟨_, n, Gh.refl _, by omega, rfl, by omega, ht⟩
    · rename_i h
      have h : xs.getD n 0 ≠ 0 := by simpa using h
      rw [trim_pos _ h] at ht
      simp only [ic98_3, wkA, Nat.reduceEqDiff, Nat.reduceAdd, Nat.reduceSub, Nat.reduceLeDiff, Nat.reduceLT, Nat.reduceBEq, Nat.reduceBNe, reduceCtorEq]
      rw [← ht]
      simp; omega
theorem con132 (x : Int) : Fn 132 [i64 x] (.bool false) := by
  refine e132 (by simp) ?_
  simp only [ic132, wkA, Nat.reduceEqDiff, Nat.reduceAdd, Nat.reduceSub, Nat.reduceLeDiff, Nat.reduceLT, Nat.reduceBEq, Nat.reduceBNe, reduceCtorEq, bne_self_eq_false]
theorem con133 (x : Int) : Fn 133 [.int .u32 x] (.bool false) := by
  refine e133 (by simp) ?_
  simp only [ic133, wkA, Nat.reduceEqDiff, Nat.reduceAdd, Nat.reduceSub, Nat.reduceLeDiff, Nat.reduceLT, Nat.reduceBEq, Nat.reduceBNe, reduceCtorEq, bne_self_eq_false]
def cmpI (x y : Int) : Int := if x < y then -1 else if y < x then 1 else 0
theorem con99 (x y : Int) : Fn 99 [i64 x, i64 y] (i64 (cmpI x y)) := by
  refine e99 (by simp) ?_
  simp only [ic99, wkA, Nat.reduceEqDiff, Nat.reduceAdd, Nat.reduceSub, Nat.reduceLeDiff, Nat.reduceLT, Nat.reduceBEq, Nat.reduceBNe, reduceCtorEq]
  refine callK_intro _ (con132 x) rfl ?_
  simp only [wkA, Nat.reduceEqDiff, Nat.reduceAdd, Nat.reduceSub, Nat.reduceLeDiff, Nat.reduceLT, Nat.reduceBEq, Nat.reduceBNe, reduceCtorEq]
  refine callK_intro _ (con132 y) rfl ?_
  simp only [ic99_1, ic99_2, ic99_3, ic99_4, ic99_5, wkA, Nat.reduceEqDiff, Nat.reduceAdd, Nat.reduceSub, Nat.reduceLeDiff, Nat.reduceLT, Nat.reduceBEq, Nat.reduceBNe, reduceCtorEq, decide_eq_true_eq, gt_iff_lt, cnd_if]
  unfold cmpI
  split <;> (try split) <;> rfl
theorem con100 (x y : Int) : Fn 100 [.int .u32 x, .int .u32 y] (i64 (cmpI x y)) := by
  refine e100 (by simp) ?_
  simp only [ic100, wkA, Nat.reduceEqDiff, Nat.reduceAdd, Nat.reduceSub, Nat.reduceLeDiff, Nat.reduceLT, Nat.reduceBEq, Nat.reduceBNe, reduceCtorEq]
  refine callK_intro _ (con133 x) rfl ?_
  simp only [wkA, Nat.reduceEqDiff, Nat.reduceAdd, Nat.reduceSub, Nat.reduceLeDiff, Nat.reduceLT, Nat.reduceBEq, Nat.reduceBNe, reduceCtorEq]
  refine callK_intro _ (con133 y) rfl ?_
  simp only [ic100_1, ic100_2, ic100_3, ic100_4, ic100_5, wkA, Nat.reduceEqDiff, Nat.reduceAdd, Nat.reduceSub, Nat.reduceLeDiff, Nat.reduceLT, Nat.reduceBEq, Nat.reduceBNe, reduceCtorEq, decide_eq_true_eq, gt_iff_lt, cnd_if]
  unfold cmpI
  split <;> (try split) <;> rfl
def lv : List Nat → Nat
  | [] => 0
  | x :: xs => x + 1000000000 * lv xs
def ok (xs : List Nat) : Prop := ∀ x ∈ xs, x < 1000000000
theorem ok_nil : ok [] := by simp [ok]
theorem ok_append {xs ys : List Nat} : ok (xs ++ ys) ↔ ok xs ∧ ok ys := by
  simp only [ok, List.mem_append]
  exact ⟨fun h => ⟨fun x hx => h x (.inl hx), fun x hx => h x (.inr hx)⟩, fun h x hx => hx.elim (h.1 x) (h.2 x)⟩
theorem ok_one {x : Nat} : ok [x] ↔ x < 1000000000 := by simp [ok]
theorem ok_sub {xs ys : List Nat} (h : ok ys) (hs : ∀ x ∈ xs, x ∈ ys) : ok xs := fun x hx => h x (hs x hx)
theorem ok_get {xs : List Nat} (h : ok xs) (i : Nat) : xs.getD i 0 < 1000000000 := by
  simp only [List.getD_eq_getElem?_getD]
  cases hi : xs[i]? with
  | none => simp
  | some x => simp; exact h x (List.mem_of_getElem? hi)
theorem lv_append (xs ys : List Nat) : lv (xs ++ ys) = lv xs + 1000000000 ^ xs.length * lv ys := by
  induction xs with
  | nil => simp [lv]
  | cons x xs ih => simp only [List.cons_append, lv, ih, List.length_cons, Nat.pow_succ, Nat.mul_add]; rw [Nat.add_assoc, Nat.mul_comm (1000000000 ^ xs.length) 1000000000, Nat.mul_assoc]
theorem lv_one (x : Nat) : lv [x] = x := by simp [lv]
theorem lv_lt {xs : List Nat} (h : ok xs) : lv xs < 1000000000 ^ xs.length := by
  induction xs with
  | nil => simp [lv]
  | cons x xs ih =>
    have h1 := ih (fun y hy => h y (by simp [hy]))
    have h2 := h x (by simp)
    simp only [lv, List.length_cons, Nat.pow_succ]
    omega
theorem lv_zeros (n : Nat) : lv (List.replicate n 0) = 0 := by
  induction n with
  | zero => rfl
  | succ n ih => simp [List.replicate_succ, lv, ih]
theorem lv_take_succ {xs : List Nat} {n : Nat} (h : n < xs.length) : lv (xs.take (n + 1)) = lv (xs.take n) + 1000000000 ^ n * xs.getD n 0 := by
  rw [take_last h, lv_append, lv_one, List.length_take, Nat.min_eq_left (by omega)]
theorem lv_split (xs : List Nat) (n : Nat) (h : n ≤ xs.length) : lv xs = lv (xs.take n) + 1000000000 ^ n * lv (xs.drop n) := by
  have := lv_append (xs.take n) (xs.drop n)
  rw [List.take_append_drop, List.length_take, Nat.min_eq_left h] at this
  exact this
theorem trim_spec (xs : List Nat) : ∃ k, xs = trim xs ++ List.replicate k 0 := by
  obtain ⟨ys, rfl⟩ : ∃ ys : List Nat, xs = ys.reverse := ⟨xs.reverse, by simp⟩
  rw [show trim ys.reverse = (ys.dropWhile (· == 0)).reverse by simp [trim]]
  induction ys with
  | nil => exact ⟨0, rfl⟩
  | cons y ys ih =>
    by_cases h : y = 0
    · subst h
      obtain ⟨k, hk⟩ := ih
      refine ⟨k + 1, ?_⟩
      simp only [List.dropWhile_cons, BEq.rfl, if_true, List.reverse_cons]
      rw [List.replicate_succ', ← List.append_assoc, ← hk]
    · exact ⟨0, by simp [List.dropWhile_cons, h]⟩
theorem lv_trim (xs : List Nat) : lv (trim xs) = lv xs := by
  obtain ⟨k, hk⟩ := trim_spec xs
  conv => rhs; rw [hk]
  rw [lv_append, lv_zeros]; simp
theorem ok_trim {xs : List Nat} (h : ok xs) : ok (trim xs) := by
  obtain ⟨k, hk⟩ := trim_spec xs
  rw [hk] at h
  exact (ok_append.1 h).1
theorem trim_take (xs : List Nat) : xs.take (trim xs).length = trim xs := by
  obtain ⟨k, hk⟩ := trim_spec xs
  have : ∀ ys, ys = trim xs ++ List.replicate k 0 → ys.take (trim xs).length = trim xs := by rintro _ rfl; simp
  exact this xs hk
theorem trim_last (xs : List Nat) (h : trim xs ≠ []) : (trim xs).getLast h ≠ 0 := by
  intro hl
  have h2 : trim xs = (trim xs).dropLast ++ [0] := by rw [← hl]; exact (List.dropLast_concat_getLast h).symm
  have h3 : xs.reverse.dropWhile (· == 0) = 0 :: ((trim xs).dropLast).reverse := by
    have : (trim xs).reverse = xs.reverse.dropWhile (· == 0) := by simp [trim]
    rw [← this, h2]; simp
  have h4 := List.head?_dropWhile_not (· == 0) xs.reverse
  rw [h3] at h4
  simp at h4
theorem trim_cons (x : Nat) (xs : List Nat) : trim (x :: xs) = if x = 0 ∧ trim xs = [] then [] else x :: trim xs := by
  simp only [trim, List.reverse_cons, List.dropWhile_append, List.reverse_eq_nil_iff]
  by_cases h : (xs.reverse.dropWhile (· == 0)) = []
  · rw [h]
    by_cases hx : x = 0 <;> simp [hx]
  · have h2 : (xs.reverse.dropWhile (· == 0)).isEmpty = false := by simpa [List.isEmpty_iff] using h
    rw [if_neg (by simp [h2]), if_neg (by simp [h])]
    simp
def limbs (n : Nat) : List Nat := if h : n = 0 then [] else n % 1000000000 :: limbs (n / 1000000000)
decreasing_by exact Nat.div_lt_self (Nat.pos_of_ne_zero h) (by decide)
theorem limbs_zero : limbs 0 = [] := by rw [limbs]; simp
theorem limbs_pos {n : Nat} (h : n ≠ 0) : limbs n = n % 1000000000 :: limbs (n / 1000000000) := by rw [limbs]; simp [h]
theorem lv_limbs (n : Nat) : lv (limbs n) = n := by
  induction n using Nat.strongRecOn with
  | _ n ih =>
    by_cases h : n = 0
    · subst h; rw [limbs_zero]; rfl
    · rw [limbs_pos h, lv, ih _ (Nat.div_lt_self (Nat.pos_of_ne_zero h) (by decide))]
      omega
theorem ok_limbs (n : Nat) : ok (limbs n) := by
  induction n using Nat.strongRecOn with
  | _ n ih =>
    by_cases h : n = 0
    · subst h; rw [limbs_zero]; exact ok_nil
    · rw [limbs_pos h]
      intro x hx
      rcases List.mem_cons.1 hx with hx | hx
      · rw [hx]; exact Nat.mod_lt _ (by decide)
      · exact ih _ (Nat.div_lt_self (Nat.pos_of_ne_zero h) (by decide)) x hx
theorem lv_zero_trim {xs : List Nat} (h : lv xs = 0) : trim xs = [] := by
  induction xs with
  | nil => rfl
  | cons x xs ih =>
    simp only [lv] at h
    rw [trim_cons, if_pos ⟨by omega, ih (by omega)⟩]
theorem limbs_lv {xs : List Nat} (h : ok xs) : limbs (lv xs) = trim xs := by
  induction xs with
  | nil => exact limbs_zero
  | cons x xs ih =>
    have hx := h x (by simp)
    have ih := ih fun y hy => h y (by simp [hy])
    by_cases h0 : lv (x :: xs) = 0
    · rw [h0, limbs_zero, lv_zero_trim h0]
    · rw [limbs_pos h0]
      have h1 : lv (x :: xs) % 1000000000 = x := by simp only [lv]; omega
      have h2 : lv (x :: xs) / 1000000000 = lv xs := by simp only [lv]; omega
      rw [h1, h2, ih, trim_cons, if_neg]
      rintro ⟨rfl, ht⟩
      apply h0
      have := lv_trim xs
      rw [ht] at this
      simp only [lv] at this ⊢
      omega
theorem trim_limbs (n : Nat) : trim (limbs n) = limbs n := by rw [← limbs_lv (ok_limbs n), lv_limbs]
end Go.Proofs.YtgehlcgjchfibaaGreatDoor.F
namespace Go.Proofs
open Go.Shelf
def Tryz.lays169_ren : Go.Shelf.Ren := ⟨fun | 169 => 104 | n => n, fun | 70 => 126 | 9 => 9 | 0 => 0 | 72 => 128 | 37 => 107 | 127 => 164 | 3 => 3 | 5 => 5 | n => n, fun | n => n⟩
theorem Tryz.lays169 : Go.Proofs.Lays.n169 Tryz.prog Tryz.lays169_ren := {
  mixed := by kernel_rfl
  f169 := Tryz.func104.trans (congrArg some (by kernel_rfl))
  t0 := Tryz.underlying0
  a0 := Tryz.isAgg0
  z0 := Tryz.sizeOf0
  v0 := Tryz.zeroValue0
  t3 := Tryz.underlying3
  a3 := Tryz.isAgg3
  z3 := Tryz.sizeOf3
  v3 := Tryz.zeroValue3
  t9 := Tryz.underlying9
  a9 := Tryz.isAgg9
  z9 := Tryz.sizeOf9
  v9 := Tryz.zeroValue9
  t37 := Tryz.underlying107
  a37 := Tryz.isAgg107
  z37 := Tryz.sizeOf107
  v37 := Tryz.zeroValue107
  t70 := Tryz.underlying126
  a70 := Tryz.isAgg126
  z70 := Tryz.sizeOf126
  v70 := Tryz.zeroValue126
  t72 := Tryz.underlying128
  a72 := Tryz.isAgg128
  z72 := Tryz.sizeOf128
  v72 := Tryz.zeroValue128
  t127 := Tryz.underlying164
  a127 := Tryz.isAgg164
  z127 := Tryz.sizeOf164
  v127 := Tryz.zeroValue164 }
theorem Tryz.Builder_Extra_169 : Builder.Extra Tryz.prog Tryz.lays169_ren := {
  sizeBuilder := by kernel_rfl
  liesBuilder := by kernel_rfl
  t5 := Tryz.underlying5
  a5 := Tryz.isAgg5
  z5 := Tryz.sizeOf5
  v5 := Tryz.zeroValue5
  infoByte := by kernel_rfl
  cellsByte := by kernel_rfl
  sizeByte := by kernel_rfl
  neB5 := by decide }
def Tryz.lays161_ren : Go.Shelf.Ren := ⟨fun | 161 => 93 | 231 => 122 | 227 => 123 | 233 => 124 | 235 => 125 | 228 => 141 | 197 => 142 | 151 => 143 | 260 => 148 | 152 => 149 | 137 => 151 | 119 => 152 | 224 => 153 | 225 => 154 | 217 => 155 | 266 => 156 | n => n, fun | 9 => 9 | 4 => 4 | 3 => 3 | 5 => 5 | 117 => 154 | 116 => 153 | 0 => 0 | 124 => 157 | 105 => 105 | 21 => 21 | 119 => 177 | 46 => 178 | 139 => 181 | 138 => 180 | n => n, fun | 3 => 2 | 4 => 3 | n => n⟩
theorem Tryz.lays161 : Go.Proofs.Lays.n161 Tryz.prog Tryz.lays161_ren := {
  mixed := by kernel_rfl
  f119 := Tryz.func152.trans (congrArg some (by kernel_rfl))
  f137 := Tryz.func151.trans (congrArg some (by kernel_rfl))
  f151 := Tryz.func143.trans (congrArg some (by kernel_rfl))
  f152 := Tryz.func149.trans (congrArg some (by kernel_rfl))
  f161 := Tryz.func93.trans (congrArg some (by kernel_rfl))
  f197 := Tryz.func142.trans (congrArg some (by kernel_rfl))
  f217 := Tryz.func155.trans (congrArg some (by kernel_rfl))
  f224 := Tryz.func153.trans (congrArg some (by kernel_rfl))
  f225 := Tryz.func154.trans (congrArg some (by kernel_rfl))
  f227 := Tryz.func123.trans (congrArg some (by kernel_rfl))
  f228 := Tryz.func141.trans (congrArg some (by kernel_rfl))
  f231 := Tryz.func122.trans (congrArg some (by kernel_rfl))
  f233 := Tryz.func124.trans (congrArg some (by kernel_rfl))
  f235 := Tryz.func125.trans (congrArg some (by kernel_rfl))
  f260 := Tryz.func148.trans (congrArg some (by kernel_rfl))
  f266 := Tryz.func156.trans (congrArg some (by kernel_rfl))
  t0 := Tryz.underlying0
  a0 := Tryz.isAgg0
  z0 := Tryz.sizeOf0
  v0 := Tryz.zeroValue0
  t3 := Tryz.underlying3
  a3 := Tryz.isAgg3
  z3 := Tryz.sizeOf3
  v3 := Tryz.zeroValue3
  t4 := Tryz.underlying4
  a4 := Tryz.isAgg4
  z4 := Tryz.sizeOf4
  v4 := Tryz.zeroValue4
  t5 := Tryz.underlying5
  a5 := Tryz.isAgg5
  z5 := Tryz.sizeOf5
  v5 := Tryz.zeroValue5
  t9 := Tryz.underlying9
  a9 := Tryz.isAgg9
  z9 := Tryz.sizeOf9
  v9 := Tryz.zeroValue9
  t21 := Tryz.underlying21
  a21 := Tryz.isAgg21
  z21 := Tryz.sizeOf21
  v21 := Tryz.zeroValue21
  t46 := Tryz.underlying178
  a46 := Tryz.isAgg178
  z46 := Tryz.sizeOf178
  v46 := Tryz.zeroValue178
  t105 := Tryz.underlying105
  a105 := Tryz.isAgg105
  z105 := Tryz.sizeOf105
  v105 := Tryz.zeroValue105
  t116 := Tryz.underlying153
  a116 := Tryz.isAgg153
  z116 := Tryz.sizeOf153
  t117 := Tryz.underlying154
  a117 := Tryz.isAgg154
  z117 := Tryz.sizeOf154
  v117 := Tryz.zeroValue154
  t119 := Tryz.underlying177
  a119 := Tryz.isAgg177
  z119 := Tryz.sizeOf177
  t124 := Tryz.underlying157
  a124 := Tryz.isAgg157
  z124 := Tryz.sizeOf157
  v124 := Tryz.zeroValue157
  t138 := Tryz.underlying180
  a138 := Tryz.isAgg180
  z138 := Tryz.sizeOf180
  v138 := Tryz.zeroValue180
  t139 := Tryz.underlying181
  a139 := Tryz.isAgg181
  z139 := Tryz.sizeOf181
  v139 := Tryz.zeroValue181
  g3 := by kernel_rfl
  g4 := by kernel_rfl }
open Go.RowKit in
theorem Tryz.strings_TrimLeft_one (s : ByteArray) (c : UInt8) (hc : c.toNat < 128) (w : World) :
    Calls Tryz.prog 93 #[.string s, .string ⟨#[c]⟩] w fun e w' => e = .returned (.string ⟨(Lib.trimLeftB s.data.toList c).toArray⟩) ∧ w' = w := Any.strings_TrimLeft_one Tryz.lays161 s c hc w
def Tryz.lays162_ren : Go.Shelf.Ren := ⟨fun | 162 => 94 | 232 => 126 | 227 => 123 | 234 => 127 | 236 => 128 | 228 => 141 | 271 => 144 | 151 => 143 | 120 => 150 | 197 => 142 | 152 => 149 | 260 => 148 | 137 => 151 | 119 => 152 | 224 => 153 | 225 => 154 | 217 => 155 | 266 => 156 | n => n, fun | 9 => 9 | 4 => 4 | 3 => 3 | 5 => 5 | 117 => 154 | 116 => 153 | 0 => 0 | 124 => 157 | 21 => 21 | 105 => 105 | 46 => 178 | 119 => 177 | 139 => 181 | 138 => 180 | n => n, fun | 3 => 2 | 4 => 3 | n => n⟩
theorem Tryz.lays162 : Go.Proofs.Lays.n162 Tryz.prog Tryz.lays162_ren := {
  mixed := by kernel_rfl
  f119 := Tryz.func152.trans (congrArg some (by kernel_rfl))
  f120 := Tryz.func150.trans (congrArg some (by kernel_rfl))
  f137 := Tryz.func151.trans (congrArg some (by kernel_rfl))
  f151 := Tryz.func143.trans (congrArg some (by kernel_rfl))
  f152 := Tryz.func149.trans (congrArg some (by kernel_rfl))
  f162 := Tryz.func94.trans (congrArg some (by kernel_rfl))
  f197 := Tryz.func142.trans (congrArg some (by kernel_rfl))
  f217 := Tryz.func155.trans (congrArg some (by kernel_rfl))
  f224 := Tryz.func153.trans (congrArg some (by kernel_rfl))
  f225 := Tryz.func154.trans (congrArg some (by kernel_rfl))
  f227 := Tryz.func123.trans (congrArg some (by kernel_rfl))
  f228 := Tryz.func141.trans (congrArg some (by kernel_rfl))
  f232 := Tryz.func126.trans (congrArg some (by kernel_rfl))
  f234 := Tryz.func127.trans (congrArg some (by kernel_rfl))
  f236 := Tryz.func128.trans (congrArg some (by kernel_rfl))
  f260 := Tryz.func148.trans (congrArg some (by kernel_rfl))
  f266 := Tryz.func156.trans (congrArg some (by kernel_rfl))
  f271 := Tryz.func144.trans (congrArg some (by kernel_rfl))
  t0 := Tryz.underlying0
  a0 := Tryz.isAgg0
  z0 := Tryz.sizeOf0
  v0 := Tryz.zeroValue0
  t3 := Tryz.underlying3
  a3 := Tryz.isAgg3
  z3 := Tryz.sizeOf3
  v3 := Tryz.zeroValue3
  t4 := Tryz.underlying4
  a4 := Tryz.isAgg4
  z4 := Tryz.sizeOf4
  v4 := Tryz.zeroValue4
  t5 := Tryz.underlying5
  a5 := Tryz.isAgg5
  z5 := Tryz.sizeOf5
  v5 := Tryz.zeroValue5
  t9 := Tryz.underlying9
  a9 := Tryz.isAgg9
  z9 := Tryz.sizeOf9
  v9 := Tryz.zeroValue9
  t21 := Tryz.underlying21
  a21 := Tryz.isAgg21
  z21 := Tryz.sizeOf21
  v21 := Tryz.zeroValue21
  t46 := Tryz.underlying178
  a46 := Tryz.isAgg178
  z46 := Tryz.sizeOf178
  v46 := Tryz.zeroValue178
  t105 := Tryz.underlying105
  a105 := Tryz.isAgg105
  z105 := Tryz.sizeOf105
  v105 := Tryz.zeroValue105
  t116 := Tryz.underlying153
  a116 := Tryz.isAgg153
  z116 := Tryz.sizeOf153
  t117 := Tryz.underlying154
  a117 := Tryz.isAgg154
  z117 := Tryz.sizeOf154
  v117 := Tryz.zeroValue154
  t119 := Tryz.underlying177
  a119 := Tryz.isAgg177
  z119 := Tryz.sizeOf177
  t124 := Tryz.underlying157
  a124 := Tryz.isAgg157
  z124 := Tryz.sizeOf157
  v124 := Tryz.zeroValue157
  t138 := Tryz.underlying180
  a138 := Tryz.isAgg180
  z138 := Tryz.sizeOf180
  v138 := Tryz.zeroValue180
  t139 := Tryz.underlying181
  a139 := Tryz.isAgg181
  z139 := Tryz.sizeOf181
  v139 := Tryz.zeroValue181
  g3 := by kernel_rfl
  g4 := by kernel_rfl }
open Go.RowKit in
theorem Tryz.strings_TrimRight_one (s : ByteArray) (c : UInt8) (hc : c.toNat < 128) (w : World) (hs : s.size ≤ 9223372036854775807) :
    Calls Tryz.prog 94 #[.string s, .string ⟨#[c]⟩] w fun e w' => e = .returned (.string ⟨(Lib.trimRightB s.data.toList c).toArray⟩) ∧ w' = w := Any.strings_TrimRight_one Tryz.lays162 s c hc w hs
open Go.RowKit in
theorem Tryz.Builder_String_any_k (B b : Nat) (l : List UInt8) (w : World) (h : Lib.IsBuilderF 128 5 B b (Lib.byteCells l) w) (hBw : B ≤ w.heap.size) :
    Calls Tryz.prog 104 #[.pointer (some ⟨b, 0, none⟩)] w fun e w' => e = .returned (.string ⟨l.toArray⟩) ∧ (Lib.IsBuilderF 128 5 B b (Lib.byteCells l) w' ∧ Below B w w' ∧ Lib.OthersKept 5 (some b) w w') := Any.Builder_String_any_k Tryz.lays169 Tryz.Builder_Extra_169 B b l w h hBw
def Tryz.laysSlE041_f137_ren : Go.Shelf.Ren := ⟨fun | 41 => 137 | n => n, fun | 22 => 84 | 23 => 94 | 4 => 4 | n => n, fun | n => n⟩
theorem Tryz.laysSlE041_f137 : Go.Proofs.SlLaysE0.n41 Tryz.prog Tryz.laysSlE041_f137_ren := {
  mixed := by kernel_rfl
  f41 := ⟨Tryz.f137.name, by decide, Tryz.func137.trans (congrArg some (by kernel_rfl))⟩
  t4 := Tryz.underlying4
  a4 := Tryz.isAgg4
  z4 := Tryz.sizeOf4
  v4 := Tryz.zeroValue4
  t22 := Tryz.underlying84
  a22 := Tryz.isAgg84
  z22 := Tryz.sizeOf84
  v22 := Tryz.zeroValue84 }
open Go.RowKit Go.Lib in
theorem Tryz.slices_Clone (i0 : TypeInfo) (z : Value) (size bytes : Nat) (hi : Tryz.prog.info? 94 = some i0) (hz0 : i0.zero = some z) (hz1 : i0.size = size) (hz2 : i0.bytes = bytes) (hzs : z.cells.size = size) (hsz : 0 < size) (z23 : ∀ w, (Go.sizeOf 94).run Tryz.prog w = .ok size w) (b off n c : Nat) (news : List Value) (w : World) (hl : news.length = n * size) (hn : n ≤ maxLen) (hbig : n * bytes ≤ 140737488355328) (hc : ∀ j u, news[j]? = some u → w.cell? ⟨b, off + j, none⟩ = some u) (h1 : ∀ u ∈ news, u.oneCell' = true) :
    Calls Tryz.prog 137 #[.slice (some ⟨b, off, none⟩) n c] w fun e w' => ∃ v', e = .returned v' ∧ w'.ownsRow w.heap.size 94 size v' n news ∧ v' ≠ .slice none 0 0 ∧ Below w.heap.size w w' := AnyE.slices_Clone Tryz.laysSlE041_f137 i0 z size bytes hi hz0 hz1 hz2 hzs hsz z23 b off n c news w hl hn hbig hc h1
open Go.RowKit Go.Lib in
theorem Tryz.slices_Clone_nil (n c : Nat) (w : World) :
    Calls Tryz.prog 137 #[.slice none n c] w fun e w' => e = .returned (.slice none 0 0) ∧ w' = w := AnyE.slices_Clone_nil Tryz.laysSlE041_f137 n c w
end Go.Proofs
