/-
  What the functions that the laws call compute, for every input that the statements allow (part 1): for the claims up to a bulk of 1048576.
-/
import Derived.Below
import Derived.Orders
import Derived.Laws.AppendOwn
import Derived.Laws.Cells
import Derived.Laws.Sem
import Derived.Deep.MidRow
import Derived.Laws.NewFold
import Derived.Laws.NewBlocks
import Derived.ChangeKeysEq
import Derived.WalkKit
import Derived.Laws.BytesArg
import Derived.Laws.StructEq
import Derived.Great.FillDense
import Derived.Great.BuildSlice
import Derived.Laws.Tables
import Derived.Laws.CopyRow
import Derived.Laws.MakeOwn
import Derived.Maps.AppendAt
set_option linter.unusedVariables false
set_option linter.unusedSimpArgs false
set_option linter.defProp false
namespace Go.Proofs.YtgehlcgjchfibaaGreatDoor.F
open Go Go.RowKit
inductive AV where
  | int (k : IntKind) (n : Int)
  | bool (b : Bool)
  | str (s : List UInt8)
  | agg (cs : List AV)
  | tup (vs : List AV)
  | nil
  | sl (sz : Nat) (xs : List AV)
  | ref (v : AV)
  | fn (f : FuncId)
  | box (id off : Nat)
  | own (id : Nat)
  | elt (id i : Nat)
  | top
inductive Rel (C : Nat → Nat → Prop) (w : World) : AV → Value → Prop
  | top (u : Value) : Rel C w .top u
  | int (k : IntKind) (n : Int) : Rel C w (.int k n) (.int k n)
  | bool (b : Bool) : Rel C w (.bool b) (.bool b)
  | str (s : List UInt8) : Rel C w (.str s) (.string ⟨s.toArray⟩)
  | fn (f : FuncId) : Rel C w (.fn f) (.func (.func f) #[] #[])
  | nil : Rel C w .nil (.slice none 0 0)
  | agg (cs : List AV) (us : List Value) (hl : cs.length = us.length) (h : ∀ (i : Nat) c u, cs[i]? = some c → us[i]? = some u → Rel C w c u) (h1 : ∀ u ∈ us, u.oneCell' = true) : Rel C w (.agg cs) (.agg us.toArray)
  | tup (vs : List AV) (us : List Value) (hl : vs.length = us.length) (h : ∀ (i : Nat) c u, vs[i]? = some c → us[i]? = some u → Rel C w c u) : Rel C w (.tup vs) (.tuple us.toArray)
  | sl0 (sz : Nat) (A : Option Addr) (cap : Nat) (hA : ∀ a, A = some a → a.spot = none) : Rel C w (.sl sz []) (.slice A 0 cap)
  | sl (sz : Nat) (xs : List AV) (b off cap : Nat) (us : Nat → Value) (hc : xs.length ≤ cap) (h : ∀ (i : Nat) x, xs[i]? = some x → Rel C w x (us i)) (hs : ∀ i, i < xs.length → (us i).cells.size = sz ∧ ∀ c ∈ (us i).cells.toList, c.oneCell' = true)
      (hw : ∀ i j c, i < xs.length → (us i).cells[j]? = some c → C b (off + (i * sz + j)) ∧ w.cell? ⟨b, off + (i * sz + j), none⟩ = some c) : Rel C w (.sl sz xs) (.slice (some ⟨b, off, none⟩) xs.length cap)
  | ref (v : AV) (u : Value) (b off : Nat) (h : Rel C w v u) (hw : ∀ (j : Nat) c, u.cells[j]? = some c → C b (off + j) ∧ w.cell? ⟨b, off + j, none⟩ = some c) : Rel C w (.ref v) (.pointer (some ⟨b, off, none⟩))
theorem Rel.mono {C C' : Nat → Nat → Prop} {w w' : World} (hC : ∀ b o, C b o → C' b o) (hw : ∀ b o, C b o → w'.cell? ⟨b, o, none⟩ = w.cell? ⟨b, o, none⟩) {x : AV} {u : Value} (h : Rel C w x u) : Rel C' w' x u := by
  induction h with
  | top u => exact .top u
  | int k n => exact .int k n
  | bool b => exact .bool b
  | str s => exact .str s
  | fn f => exact .fn f
  | nil => exact .nil
  | agg cs us hl _ h1 ih => exact .agg cs us hl ih h1
  | tup vs us hl _ ih => exact .tup vs us hl ih
  | sl0 sz A cap hA => exact .sl0 sz A cap hA
  | sl sz xs b off cap us hc _ hs hq ih => exact .sl sz xs b off cap us hc ih hs fun i j c hi hj => ⟨hC _ _ (hq i j c hi hj).1, (hw _ _ (hq i j c hi hj).1).trans (hq i j c hi hj).2⟩
  | ref v u b off _ hq ih => exact .ref v u b off ih fun j c hj => ⟨hC _ _ (hq j c hj).1, (hw _ _ (hq j c hj).1).trans (hq j c hj).2⟩
def RelL (C : Nat → Nat → Prop) (w : World) (xs : List AV) (us : List Value) : Prop := xs.length = us.length ∧ ∀ (i : Nat) x u, xs[i]? = some x → us[i]? = some u → Rel C w x u
theorem RelL.nil (C : Nat → Nat → Prop) (w : World) : RelL C w [] [] := ⟨rfl, fun i x u h => by simp at h⟩
theorem RelL.cons {C : Nat → Nat → Prop} {w : World} {x : AV} {u : Value} {xs : List AV} {us : List Value} (h : Rel C w x u) (t : RelL C w xs us) : RelL C w (x :: xs) (u :: us) := by
  refine ⟨by simp [t.1], fun i y v hy hv => ?_⟩
  cases i with
  | zero => simp at hy hv; subst hy hv; exact h
  | succ i => exact t.2 i y v (by simpa using hy) (by simpa using hv)
theorem RelL.mono {C C' : Nat → Nat → Prop} {w w' : World} (hC : ∀ b o, C b o → C' b o) (hw : ∀ b o, C b o → w'.cell? ⟨b, o, none⟩ = w.cell? ⟨b, o, none⟩) {xs : List AV} {us : List Value} (h : RelL C w xs us) : RelL C' w' xs us :=
  ⟨h.1, fun i x u hx hu => (h.2 i x u hx hu).mono hC hw⟩
theorem RelL.cons_inv {C : Nat → Nat → Prop} {w : World} {x : AV} {xs : List AV} {us : List Value} (h : RelL C w (x :: xs) us) : ∃ u t, us = u :: t ∧ Rel C w x u ∧ RelL C w xs t := by
  cases us with
  | nil => exact absurd h.1 (by simp)
  | cons u t => exact ⟨u, t, rfl, h.2 0 x u rfl rfl, by simpa using h.1, fun i y v hy hv => h.2 (i + 1) y v (by simpa using hy) (by simpa using hv)⟩
theorem RelL.nil_inv {C : Nat → Nat → Prop} {w : World} {us : List Value} (h : RelL C w [] us) : us = [] := by
  cases us with
  | nil => rfl
  | cons u t => exact absurd h.1 (by simp)
def GRel (G : List (Nat × AV)) (C : Nat → Nat → Prop) (w : World) : Prop := ∀ g v, (g, v) ∈ G → Rel C w (.ref v) (.pointer (some ⟨g, 0, none⟩))
theorem GRel.mono {G : List (Nat × AV)} {C C' : Nat → Nat → Prop} {w w' : World} (hC : ∀ b o, C b o → C' b o) (hw : ∀ b o, C b o → w'.cell? ⟨b, o, none⟩ = w.cell? ⟨b, o, none⟩) (h : GRel G C w) : GRel G C' w' := fun g v hm => (h g v hm).mono hC hw
def Con (P : Program) (G : List (Nat × AV)) (f : FuncId) (args : List AV) (r : AV) : Prop :=
  ∀ (w : World) (C : Nat → Nat → Prop) (us : Array Value), (∀ b o, C b o → b < w.heap.size) → GRel G C w → RelL C w args us.toList →
    Calls P f us w fun e w' => ∃ u C', e = .returned u ∧ Below w.heap.size w w' ∧ (∀ b o, C b o → C' b o) ∧ (∀ b o, C' b o → b < w'.heap.size ∧ (C b o ∨ w.heap.size ≤ b)) ∧ Rel C' w' r u
end Go.Proofs.YtgehlcgjchfibaaGreatDoor.F
namespace Go.Proofs.YtgehlcgjchfibaaGreatDoor.F
open Go Go.RowKit
def look {α : Type} : List (Nat × α) → Nat → Option α
  | [], _ => none
  | p :: l, t => if p.1 = t then some p.2 else look l t
inductive Ob where
  | box (T : TypeId) (cs : List AV)
  | row (E : TypeId) (sz : Nat) (xs : List AV)
  | iter (s : List UInt8) (pos : Nat)
structure St where
  t : List (Nat × AV)
  o : List (Nat × Ob)
def AV.nid (i : Nat) : AV → Bool
  | .box j _ => i != j
  | .own j => i != j
  | .elt j _ => i != j
  | _ => true
def killT (i : Nat) (l : List (Nat × AV)) : List (Nat × AV) := l.map fun p => (p.1, if p.2.nid i then p.2 else .top)
def St.put (s : St) (d : Nat) (v : AV) : St := ⟨(d, v) :: s.t, s.o⟩
def St.putD (s : St) (d : Option Nat) (v : AV) : St := match d with | some d => s.put d v | none => s
def St.new (s : St) (d i : Nat) (b : Ob) (v : AV) : St := ⟨(d, v) :: killT i s.t, (i, b) :: s.o⟩
def St.upd (s : St) (i : Nat) (b : Ob) : St := ⟨s.t, (i, b) :: s.o⟩
def mblk : Value → Option Nat
  | .pointer (some a) => some a.block
  | .slice (some a) _ _ => some a.block
  | _ => none
def cellsOf (us : List Value) : List Value := us.flatMap fun u => u.cells.toList
def ObRel (C : Nat → Nat → Prop) (w : World) (own : Nat → Prop) : Ob → Value → Prop
  | .box T cs, m => ∃ g us, m = .pointer (some ⟨g, 0, none⟩) ∧ own g ∧ w.heap[g]? = some (.cells (List.toArray us) T (0, 0)) ∧ RelL C w cs us ∧ (∀ u ∈ us, u.oneCell' = true) ∧ ∀ o, ¬ C g o
  | .row E sz xs, m => ∃ us, RelL C w xs us ∧ (∀ u ∈ us, u.cells.size = sz ∧ ∀ c ∈ u.cells.toList, c.oneCell' = true) ∧ w.ownsRow 0 E sz m xs.length (cellsOf us) ∧ ∀ g, mblk m = some g → own g ∧ ∀ o, ¬ C g o
  | .iter s pos, m => ∃ g, m = .pointer (some ⟨g, 0, none⟩) ∧ own g ∧ w.heap[g]? = some (.stringIter ⟨s.toArray⟩ pos) ∧ ∀ o, ¬ C g o
def TRel (μ : Nat → Value) (C : Nat → Nat → Prop) (w : World) : AV → Value → Prop
  | .own i, u => u = μ i ∧ ∃ A n c, μ i = .slice A n c
  | .box i off, u => ∃ g, μ i = .pointer (some ⟨g, 0, none⟩) ∧ u = .pointer (some ⟨g, off, none⟩)
  | .elt i j, u => ∃ g n cap, μ i = .slice (some ⟨g, 0, none⟩) n cap ∧ u = .pointer (some ⟨g, j, none⟩)
  | v, u => Rel C w v u
structure Ctx where
  P : Program
  G : List (Nat × AV)
  w0 : World
  C0 : Nat → Nat → Prop
  nt : Nat
  ow : Nat → Prop
  pin : Option Value
abbrev pinned : Nat := 999999
structure Bel (X : Ctx) (w : World) : Prop where
  os : w.os = X.w0.os
  tape : w.tape = X.w0.tape
  output : w.output = X.w0.output
  size : X.w0.heap.size ≤ w.heap.size
  block : ∀ k, ¬ X.ow k → w.heap[k]? = X.w0.heap[k]?
structure InvAt (X : Ctx) (μ : Nat → Value) (C : Nat → Nat → Prop) (T : Nat → Option AV) (O : Nat → Option Ob) (a : Act) (w : World) : Prop where
  tm : ∀ t v, T t = some v → ∃ u, a.tmps[t]? = some u ∧ TRel μ C w v u
  ob : ∀ i b, O i = some b → ObRel C w X.ow b (μ i)
  ap : ∀ i j b c, O i = some b → O j = some c → i ≠ j → mblk (μ i) = none ∨ mblk (μ i) ≠ mblk (μ j)
  cw : ∀ b o, C b o → b < w.heap.size ∧ (X.C0 b o ∨ X.ow b)
  c0 : ∀ b o, X.C0 b o → C b o
  gr : GRel X.G C w
  be : Bel X w
  sz : a.tmps.size = X.nt
  df : a.defers = []
  nw : ∀ k, X.w0.heap.size ≤ k → X.ow k
  pn : ∀ m, X.pin = some m → μ pinned = m
  nb : X.nt ≤ pinned
def Inv (X : Ctx) (s : St) (a : Act) (w : World) : Prop := ∃ μ C, InvAt X μ C (look s.t) (look s.o) a w
def killF (i : Nat) : Option AV → Option AV
  | some v => some (if v.nid i then v else .top)
  | none => none
theorem look_killT {i t : Nat} : ∀ {l : List (Nat × AV)}, look (killT i l) t = killF i (look l t)
  | [] => rfl
  | p :: l => by
    simp only [killT, List.map_cons, look]
    split
    · rfl
    · exact look_killT
def setF {α : Type} (f : Nat → Option α) (d : Nat) (v : Option α) : Nat → Option α := fun t => if d = t then v else f t
theorem look_cons {α : Type} (d : Nat) (v : α) (l : List (Nat × α)) : look ((d, v) :: l) = setF (look l) d (some v) := rfl
theorem TRel.of_rel {μ : Nat → Value} {C : Nat → Nat → Prop} {w : World} {v : AV} {u : Value} (h : Rel C w v u) : TRel μ C w v u := by
  cases h <;> first | exact .top _ | exact .int _ _ | exact .bool _ | exact .str _ | exact .fn _ | exact .nil | exact .agg _ _ ‹_› ‹_› ‹_› | exact .tup _ _ ‹_› ‹_› | exact .sl0 _ _ _ ‹_› | exact .sl _ _ _ _ _ _ ‹_› ‹_› ‹_› ‹_› | exact .ref _ _ _ _ ‹_› ‹_›
def AV.plain : AV → Bool
  | .box _ _ => false
  | .own _ => false
  | .elt _ _ => false
  | _ => true
theorem TRel.rel {μ : Nat → Value} {C : Nat → Nat → Prop} {w : World} {v : AV} {u : Value} (h : TRel μ C w v u) (hv : v.plain = true) : Rel C w v u := by
  cases v <;> first | exact h | simp [AV.plain] at hv
theorem TRel.mono {μ : Nat → Value} {C C' : Nat → Nat → Prop} {w w' : World} (hC : ∀ b o, C b o → C' b o) (hw : ∀ b o, C b o → w'.cell? ⟨b, o, none⟩ = w.cell? ⟨b, o, none⟩) {v : AV} {u : Value} (h : TRel μ C w v u) : TRel μ C' w' v u := by
  cases v <;> first | exact h | exact Rel.mono hC hw h
theorem cell_same {w w' : World} {b : Nat} (h : w'.heap[b]? = w.heap[b]?) (o : Nat) : w'.cell? ⟨b, o, none⟩ = w.cell? ⟨b, o, none⟩ := by simp [World.cell?, h]
theorem ObRel.kept {C C' : Nat → Nat → Prop} {w w' : World} {base : Nat → Prop} {b : Ob} {m : Value} (hC : ∀ b o, C b o → C' b o) (hw : ∀ b o, C b o → w'.cell? ⟨b, o, none⟩ = w.cell? ⟨b, o, none⟩)
    (hm : ∀ g, mblk m = some g → w'.heap[g]? = w.heap[g]? ∧ ∀ o, C' g o → C g o) (h : ObRel C w base b m) : ObRel C' w' base b m := by
  cases b with
  | box T cs =>
    obtain ⟨g, us, rfl, hg, hh, hr, h1, hn⟩ := h
    obtain ⟨h2, h3⟩ := hm g rfl
    exact ⟨g, us, rfl, hg, h2.trans hh, hr.mono hC hw, h1, fun o ho => hn o (h3 o ho)⟩
  | row E sz xs =>
    obtain ⟨us, hr, h1, ho, hn⟩ := h
    refine ⟨us, hr.mono hC hw, h1, ?_, fun g hg => ⟨(hn g hg).1, fun o hc => (hn g hg).2 o ((hm g hg).2 o hc)⟩⟩
    obtain ⟨h2, h3⟩ := ho
    refine ⟨h2, ?_⟩
    rcases h3 with h3 | ⟨g, cap, cur, rfl, hb, hh, r⟩
    · exact .inl h3
    · exact .inr ⟨g, cap, cur, rfl, hb, (hm g rfl).1.trans hh, r⟩
  | iter t pos =>
    obtain ⟨g, rfl, hg, hh, hn⟩ := h
    obtain ⟨h2, h3⟩ := hm g rfl
    exact ⟨g, rfl, hg, h2.trans hh, fun o ho => hn o (h3 o ho)⟩
theorem ObRel.lt {C : Nat → Nat → Prop} {w : World} {base : Nat → Prop} {b : Ob} {m : Value} (h : ObRel C w base b m) : ∀ g, mblk m = some g → base g ∧ g < w.heap.size ∧ ∀ o, ¬ C g o := by
  intro g hg
  cases b with
  | box T cs =>
    obtain ⟨g', us, rfl, hg', hh, hr, h1, hn⟩ := h
    obtain rfl : g' = g := by simpa [mblk] using hg
    exact ⟨hg', (Array.getElem?_eq_some_iff.1 hh).1, hn⟩
  | row E sz xs =>
    obtain ⟨us, hr, h1, ho, hn⟩ := h
    rcases ho.2 with ⟨rfl, _⟩ | ⟨g', cap, cur, rfl, hb, hh, r⟩
    · simp [mblk] at hg
    · obtain rfl : g' = g := by simpa [mblk] using hg
      exact ⟨(hn g' hg).1, (Array.getElem?_eq_some_iff.1 hh).1, (hn g' hg).2⟩
  | iter t pos =>
    obtain ⟨g', rfl, hg', hh, hn⟩ := h
    obtain rfl : g' = g := by simpa [mblk] using hg
    exact ⟨hg', (Array.getElem?_eq_some_iff.1 hh).1, hn⟩
theorem Bel.below {X : Ctx} {w w' : World} (h : Bel X w) (nw : ∀ k, X.w0.heap.size ≤ k → X.ow k) (hb : Below w.heap.size w w') : Bel X w' :=
  ⟨hb.os.trans h.os, hb.tape.trans h.tape, hb.output.trans h.output, Nat.le_trans h.size hb.size, fun k hk => (hb.block k (Nat.lt_of_lt_of_le (Nat.lt_of_not_le fun hle => hk (nw k hle)) h.size)).trans (h.block k hk)⟩
theorem InvAt.grow {X : Ctx} {μ : Nat → Value} {C C' : Nat → Nat → Prop} {T : Nat → Option AV} {O : Nat → Option Ob} {a : Act} {w w' : World} (h : InvAt X μ C T O a w) (hb : Below w.heap.size w w') (hC : ∀ b o, C b o → C' b o)
    (hC' : ∀ b o, C' b o → b < w'.heap.size ∧ (C b o ∨ w.heap.size ≤ b)) : InvAt X μ C' T O a w' := by
  have hw : ∀ b o, C b o → w'.cell? ⟨b, o, none⟩ = w.cell? ⟨b, o, none⟩ := fun b o hc => cell_same (hb.block b (h.cw b o hc).1) o
  have hs := h.be.size
  refine ⟨fun t v ht => ?_, fun i b hi => ?_, h.ap, fun b o hc => ?_, fun b o hc => hC b o (h.c0 b o hc), h.gr.mono hC hw, ?_, h.sz, h.df, h.nw, h.pn, h.nb⟩
  · obtain ⟨u, hu, hr⟩ := h.tm t v ht
    exact ⟨u, hu, hr.mono hC hw⟩
  · have ho := h.ob i b hi
    refine ho.kept hC hw fun g hg => ?_
    have := ho.lt g hg
    exact ⟨hb.block g this.2.1, fun o hc => ((hC' g o hc).2).resolve_right (by omega)⟩
  · obtain ⟨h1, h2⟩ := hC' b o hc
    refine ⟨h1, ?_⟩
    rcases h2 with h2 | h2
    · exact (h.cw b o h2).2
    · exact .inr (h.nw b (by omega))
  · exact ⟨hb.os.trans h.be.os, hb.tape.trans h.be.tape, hb.output.trans h.be.output, Nat.le_trans hs hb.size, fun k hk => (hb.block k (Nat.lt_of_lt_of_le (Nat.lt_of_not_le fun hle => hk (h.nw k hle)) hs)).trans (h.be.block k hk)⟩
theorem InvAt.world {X : Ctx} {μ : Nat → Value} {C : Nat → Nat → Prop} {T : Nat → Option AV} {O : Nat → Option Ob} {a : Act} {w w' : World} (h : InvAt X μ C T O a w) (hb : Below w.heap.size w w') : InvAt X μ C T O a w' :=
  h.grow hb (fun _ _ h => h) fun b o hc => ⟨Nat.lt_of_lt_of_le (h.cw b o hc).1 hb.size, .inl hc⟩
theorem put_get (a : Act) (d : Nat) (u : Value) (t : Nat) (hd : d < a.tmps.size) : (a.put (some d) u).tmps[t]? = if d = t then some u else a.tmps[t]? := by
  simp only [Act.put, Array.getElem?_setIfInBounds]
  split
  · subst_vars; simp
  · rfl
theorem InvAt.put {X : Ctx} {μ : Nat → Value} {C : Nat → Nat → Prop} {T : Nat → Option AV} {O : Nat → Option Ob} {a : Act} {w : World} (h : InvAt X μ C T O a w) {d : Nat} (hd : d < X.nt) {v : AV} {u : Value} (hr : TRel μ C w v u) : InvAt X μ C (setF T d (some v)) O (a.put (some d) u) w := by
  refine ⟨fun t x ht => ?_, h.ob, h.ap, h.cw, h.c0, h.gr, h.be, by simpa [Act.put] using h.sz, h.df, h.nw, h.pn, h.nb⟩
  rw [put_get a d u t (by rw [h.sz]; exact hd)]
  simp only [setF] at ht
  split at ht
  · rename_i e
    injection ht with ht; subst ht
    exact ⟨u, by rw [if_pos e], hr⟩
  · rename_i e
    obtain ⟨u', h1, h2⟩ := h.tm t x ht
    exact ⟨u', by rw [if_neg e]; exact h1, h2⟩
def putF (T : Nat → Option AV) (d : Option Nat) (v : AV) : Nat → Option AV := match d with | some d => setF T d (some v) | none => T
theorem InvAt.putD {X : Ctx} {μ : Nat → Value} {C : Nat → Nat → Prop} {T : Nat → Option AV} {O : Nat → Option Ob} {a : Act} {w : World} (h : InvAt X μ C T O a w) {d : Option Nat} (hd : ∀ x, d = some x → x < X.nt) {v : AV} {u : Value} (hr : TRel μ C w v u) : InvAt X μ C (putF T d v) O (a.put d u) w := by
  cases d with
  | none => exact h
  | some d => exact h.put (hd d rfl) hr
theorem look_putD (s : St) (d : Option Nat) (v : AV) : look (s.putD d v).t = putF (look s.t) d v ∧ look (s.putD d v).o = look s.o := by cases d <;> exact ⟨rfl, rfl⟩
def updμ (μ : Nat → Value) (i : Nat) (m : Value) : Nat → Value := fun j => if j = i then m else μ j
theorem TRel.updμ {μ : Nat → Value} {C : Nat → Nat → Prop} {w : World} {v : AV} {u : Value} {i : Nat} {m : Value} (h : TRel μ C w v u) (hv : v.nid i = true) : TRel (updμ μ i m) C w v u := by
  cases v <;> first | exact h | (simp only [AV.nid, bne_iff_ne, ne_eq] at hv; simpa [TRel, F.updμ, Ne.symm hv] using h)
theorem InvAt.obj {X : Ctx} {μ : Nat → Value} {C C' : Nat → Nat → Prop} {T : Nat → Option AV} {O : Nat → Option Ob} {a : Act} {w w' : World} (h : InvAt X μ C T O a w) {d i : Nat} {b : Ob} {m : Value} (hd : d < X.nt) (hip : i ≠ pinned)
    (hC : ∀ b o, C b o → C' b o) (hw : ∀ b o, C b o → w'.cell? ⟨b, o, none⟩ = w.cell? ⟨b, o, none⟩) (hC' : ∀ b o, C' b o → b < w'.heap.size ∧ (X.C0 b o ∨ X.ow b))
    (hb : Bel X w') (ho : ObRel C' w' X.ow b m)
    (hk : ∀ j c, j ≠ i → O j = some c → ∀ g, mblk (μ j) = some g → w'.heap[g]? = w.heap[g]? ∧ (∀ o, C' g o → C g o) ∧ mblk m ≠ some g)
    {v : AV} (hv : TRel (updμ μ i m) C' w' v m) : InvAt X (updμ μ i m) C' (setF (fun t => killF i (T t)) d (some v)) (setF O i (some b)) (a.put (some d) m) w' := by
  refine ⟨fun t x ht => ?_, fun j c hj => ?_, fun j k c e hj hk' hne => ?_, hC', fun b o hc => hC b o (h.c0 b o hc), h.gr.mono hC hw, hb, by simpa [Act.put] using h.sz, h.df, h.nw, fun m' hm' => by rw [← h.pn m' hm']; simp [F.updμ, Ne.symm hip], h.nb⟩
  · rw [put_get a d m t (by rw [h.sz]; exact hd)]
    simp only [setF] at ht
    split at ht
    · rename_i e
      injection ht with ht; subst ht
      exact ⟨m, by rw [if_pos e], hv⟩
    · rename_i e
      cases hT : T t with
      | none => rw [hT] at ht; cases ht
      | some y =>
        rw [hT] at ht
        simp only [killF, Option.some.injEq] at ht
        obtain ⟨u, h1, h2⟩ := h.tm t y hT
        split at ht
        · rename_i hn
          subst ht
          exact ⟨u, by rw [if_neg e]; exact h1, (h2.mono hC hw).updμ hn⟩
        · subst ht
          exact ⟨u, by rw [if_neg e]; exact h1, .top u⟩
  · simp only [setF] at hj
    split at hj
    · rename_i e
      injection hj with hj; subst hj
      simpa [F.updμ, e.symm] using ho
    · rename_i e
      have := h.ob j c hj
      rw [show F.updμ μ i m j = μ j by simp [F.updμ, Ne.symm e]]
      exact this.kept hC hw fun g hg => ⟨(hk j c (Ne.symm e) hj g hg).1, (hk j c (Ne.symm e) hj g hg).2.1⟩
  · simp only [setF] at hj hk'
    by_cases ej : i = j
    · subst ej
      rw [if_neg hne] at hk'
      simp only [F.updμ, if_true, if_neg (Ne.symm hne)]
      cases hm : mblk m with
      | none => exact .inl rfl
      | some g =>
        refine .inr fun he => ?_
        exact (hk k e (Ne.symm hne) hk' g he.symm).2.2 hm
    · rw [if_neg ej] at hj
      by_cases e2 : i = k
      · subst e2
        simp only [F.updμ, if_true, if_neg (Ne.symm ej)]
        cases hm : mblk (μ j) with
        | none => exact .inl rfl
        | some g => exact .inr fun he => (hk j c (Ne.symm ej) hj g hm).2.2 he.symm
      · rw [if_neg e2] at hk'
        simp only [F.updμ, if_neg (Ne.symm ej), if_neg (Ne.symm e2)]
        exact h.ap j k c e hj hk' hne
theorem look_new (s : St) (d i : Nat) (b : Ob) (v : AV) : look (s.new d i b v).t = setF (fun t => killF i (look s.t t)) d (some v) ∧ look (s.new d i b v).o = setF (look s.o) i (some b) := by
  refine ⟨?_, rfl⟩
  funext t
  simp only [St.new, look, setF, look_killT]
theorem InvAt.upd {X : Ctx} {μ : Nat → Value} {C : Nat → Nat → Prop} {T : Nat → Option AV} {O : Nat → Option Ob} {a : Act} {w w' : World} (h : InvAt X μ C T O a w) {i : Nat} {b b' : Ob} (hi : O i = some b)
    (ho : ObRel C w' X.ow b' (μ i)) (hk : ∀ k, mblk (μ i) ≠ some k → w'.heap[k]? = w.heap[k]?) (hz : w.heap.size ≤ w'.heap.size) (hos : w'.os = w.os ∧ w'.tape = w.tape ∧ w'.output = w.output) :
    InvAt X μ C T (setF O i (some b')) a w' := by
  have hlt := (h.ob i b hi).lt
  have hw : ∀ b o, C b o → w'.cell? ⟨b, o, none⟩ = w.cell? ⟨b, o, none⟩ := fun b o hc => cell_same (hk b fun e => (hlt b e).2.2 o hc) o
  refine ⟨fun t v ht => ?_, fun j c hj => ?_, fun j k c d hj hk' hne => ?_, fun b o hc => ⟨Nat.lt_of_lt_of_le (h.cw b o hc).1 hz, (h.cw b o hc).2⟩, h.c0, h.gr.mono (fun _ _ h => h) hw, ?_, h.sz, h.df, h.nw, h.pn, h.nb⟩
  · obtain ⟨u, h1, h2⟩ := h.tm t v ht
    exact ⟨u, h1, h2.mono (fun _ _ h => h) hw⟩
  · simp only [setF] at hj
    split at hj
    · rename_i e
      injection hj with hj; subst hj
      subst e
      exact ho
    · rename_i e
      refine (h.ob j c hj).kept (fun _ _ h => h) hw fun g hg => ⟨hk g fun he => ?_, fun _ h => h⟩
      rcases h.ap i j b c hi hj e with h1 | h1
      · rw [h1] at he; cases he
      · exact h1 (he.trans hg.symm)
  · have look_upd : ∀ j c, setF O i (some b') j = some c → ∃ c', O j = some c' := by
      intro j c hj
      simp only [setF] at hj
      split at hj
      · rename_i e
        exact ⟨b, e ▸ hi⟩
      · exact ⟨c, hj⟩
    obtain ⟨c', hc'⟩ := look_upd j c hj
    obtain ⟨d', hd'⟩ := look_upd k d hk'
    exact h.ap j k c' d' hc' hd' hne
  · refine ⟨hos.1.trans h.be.os, hos.2.1.trans h.be.tape, hos.2.2.trans h.be.output, Nat.le_trans h.be.size hz, fun k hk1 => ?_⟩
    exact (hk k fun e => hk1 (hlt k e).1).trans (h.be.block k hk1)
def frzT (i : Nat) (v : AV) (l : List (Nat × AV)) : List (Nat × AV) := l.map fun p => (p.1, match p.2 with | .own j => if j = i then v else p.2 | x => if x.nid i then x else .top)
def dropO (i : Nat) (l : List (Nat × Ob)) : List (Nat × Ob) := l.filter fun p => p.1 != i
theorem look_dropO {i j : Nat} {b : Ob} : ∀ {l : List (Nat × Ob)}, look (dropO i l) j = some b → look l j = some b ∧ j ≠ i
  | [], h => by simp [dropO, look] at h
  | p :: l, h => by
    simp only [dropO, List.filter_cons] at h
    simp only [look]
    split at h
    · rename_i hp
      simp only [look] at h
      split at h
      · rename_i e
        rw [if_pos e]
        exact ⟨h, by simp only [bne_iff_ne, ne_eq] at hp; rw [← e]; exact hp⟩
      · rename_i e
        rw [if_neg e]
        exact look_dropO h
    · rename_i hp
      have := look_dropO h
      refine ⟨?_, this.2⟩
      rw [if_neg]
      · exact this.1
      · simp only [bne_iff_ne, ne_eq, Classical.not_not] at hp
        rw [hp]; exact fun e => this.2 e.symm
theorem look_frzT {i t : Nat} {x v : AV} : ∀ {l : List (Nat × AV)}, look (frzT i v l) t = some x → (look l t).isSome = true ∧ x = .top ∨ look l t = some (.own i) ∧ x = v ∨ look l t = some x ∧ x.nid i = true
  | [], h => by simp [frzT, look] at h
  | p :: l, h => by
    simp only [frzT, List.map_cons, look] at h ⊢
    split at h
    · rename_i hp
      rw [if_pos hp]
      injection h with h
      obtain ⟨k, y⟩ := p
      cases y <;> simp only at h ⊢
      case own j =>
        split at h
        · rename_i e; subst e; exact .inr (.inl ⟨rfl, h.symm⟩)
        · rename_i e; subst h; exact .inr (.inr ⟨rfl, by simpa [AV.nid] using Ne.symm e⟩)
      all_goals
        split at h
        · rename_i e; subst h; exact .inr (.inr ⟨rfl, e⟩)
        · subst h; exact .inl ⟨rfl, rfl⟩
    · rename_i hp
      rw [if_neg hp]
      exact look_frzT h
theorem flat_getElem {sz : Nat} : ∀ (us : List Value), (∀ u ∈ us, u.cells.size = sz) → ∀ i u j c, us[i]? = some u → u.cells[j]? = some c → (cellsOf us)[i * sz + j]? = some c
  | [], _, i, u, j, c, hu, _ => by simp at hu
  | x :: us, h, i, u, j, c, hu, hj => by
    have hx : x.cells.toList.length = sz := by simpa using h x (by simp)
    have hjl : j < sz := by
      rw [← h u (List.mem_of_getElem? hu)]
      exact (Array.getElem?_eq_some_iff.1 hj).1
    cases i with
    | zero =>
      simp at hu
      subst hu
      simp only [cellsOf, List.flatMap_cons, Nat.zero_mul, Nat.zero_add]
      rw [List.getElem?_append_left (by omega)]
      simpa using hj
    | succ i =>
      simp only [cellsOf, List.flatMap_cons]
      rw [List.getElem?_append_right (by rw [hx, Nat.succ_mul]; omega), hx, show (i + 1) * sz + j - sz = i * sz + j by rw [Nat.succ_mul]; omega]
      exact flat_getElem us (fun y hy => h y (by simp [hy])) i u j c (by simpa using hu) hj
theorem InvAt.freeze {X : Ctx} {μ : Nat → Value} {C : Nat → Nat → Prop} {s : St} {a : Act} {w : World} (h : InvAt X μ C (look s.t) (look s.o) a w) {i E sz : Nat} {xs : List AV} (hi : look s.o i = some (.row E sz xs)) :
    ∃ C', InvAt X μ C' (look (frzT i (.sl sz xs) s.t)) (look (dropO i s.o)) a w := by
  have hlt := (h.ob i _ hi).lt
  have hob := h.ob i _ hi
  obtain ⟨us, hr, h1, ho, hn⟩ := hob
  have hC : ∀ b o, C b o → (C b o ∨ (mblk (μ i) = some b)) := fun b o hc => .inl hc
  refine ⟨fun b o => C b o ∨ mblk (μ i) = some b, ⟨fun t x ht => ?_, fun j c hj => ?_, fun j k c d hj hk' hne => h.ap j k c d (look_dropO hj).1 (look_dropO hk').1 hne, fun b o hc => ?_, fun b o hc => .inl (h.c0 b o hc), h.gr.mono hC (fun _ _ _ => rfl), h.be, h.sz, h.df, h.nw, h.pn, h.nb⟩⟩
  · rcases look_frzT ht with ⟨hs, rfl⟩ | ⟨hl, rfl⟩ | ⟨hl, _⟩
    · obtain ⟨y, hy⟩ := Option.isSome_iff_exists.1 hs
      obtain ⟨u, h1, _⟩ := h.tm t y hy
      exact ⟨u, h1, .top u⟩
    · obtain ⟨u, h2, h3⟩ := h.tm t _ hl
      refine ⟨u, h2, ?_⟩
      have h3' : u = μ i := h3.1
      subst h3'
      have hlen : us.length = xs.length := hr.1.symm
      rcases ho.2 with ⟨he, hz⟩ | ⟨g, cap, cur, he, hb, hh, hc, hm, hcs, ht⟩
      · have : xs = [] := List.eq_nil_of_length_eq_zero hz
        subst this
        rw [he]
        exact .sl0 _ _ _ (by simp)
      · rw [he]
        refine .sl sz xs g 0 cap (fun k => us.getD k undef) hc (fun k x hx => ?_) (fun k hk => ?_) (fun k j c hk hj => ?_)
        · have hk : k < us.length := by rw [hlen]; exact (List.getElem?_eq_some_iff.1 hx).1
          simp only [List.getD_eq_getElem?_getD, List.getElem?_eq_getElem hk, Option.getD_some]
          exact (hr.2 k x _ hx (List.getElem?_eq_getElem hk)).mono (fun _ _ h => .inl h) (fun _ _ _ => rfl)
        · have hk' : k < us.length := by omega
          simp only [List.getD_eq_getElem?_getD, List.getElem?_eq_getElem hk', Option.getD_some]
          exact h1 _ (List.getElem_mem hk')
        · have hk' : k < us.length := by omega
          simp only [List.getD_eq_getElem?_getD, List.getElem?_eq_getElem hk', Option.getD_some] at hj
          refine ⟨.inr rfl, ?_⟩
          have hf := flat_getElem us (fun u hu => (h1 u hu).1) k us[k] j c (List.getElem?_eq_getElem hk') hj
          have := ho.cells (g := g) (by rw [he]; rfl) (k * sz + j) c hf
          rw [Addr.add_mid] at this
          simpa using this
    · obtain ⟨u, h1, h2⟩ := h.tm t x hl
      exact ⟨u, h1, h2.mono hC (fun _ _ _ => rfl)⟩
  · obtain ⟨hl, hne⟩ := look_dropO hj
    refine (h.ob j c hl).kept hC (fun _ _ _ => rfl) fun g hg => ⟨rfl, fun o hc => hc.resolve_right fun he => ?_⟩
    rcases h.ap i j _ c hi hl (Ne.symm hne) with h1 | h1
    · rw [h1] at he; cases he
    · exact h1 (he.trans hg.symm)
  · rcases hc with hc | hc
    · exact h.cw b o hc
    · exact ⟨(hlt b hc).2.1, .inr (hlt b hc).1⟩
theorem InvAt.nilOwn {X : Ctx} {μ : Nat → Value} {C : Nat → Nat → Prop} {s : St} {a : Act} {w : World} (h : InvAt X μ C (look s.t) (look s.o) a w) {t i E sz : Nat} (ht : look s.t t = some .nil) (hip : i ≠ pinned) :
    Inv X (s.new t i (.row E sz []) (.own i)) a w := by
  obtain ⟨u, hu, hr⟩ := h.tm t _ ht
  have : u = .slice none 0 0 := by cases hr; rfl
  subst this
  have hlt : t < a.tmps.size := (Array.getElem?_eq_some_iff.1 hu).1
  have ha : a.put (some t) (.slice none 0 0) = a := by
    simp only [Act.put]
    congr 1
    apply Array.ext_getElem?
    intro k
    simp only [Array.getElem?_setIfInBounds]
    split
    · rename_i e; subst e; exact hu.symm
    · rfl
  have := h.obj (d := t) (i := i) (b := .row E sz []) (m := .slice none 0 0) (C' := C) (w' := w) (by rw [← h.sz]; exact hlt) hip (fun _ _ h => h) (fun _ _ _ => rfl) h.cw h.be
    ⟨[], RelL.nil _ _, by simp, ⟨by simp [cellsOf], .inl ⟨rfl, rfl⟩⟩, fun g hg => by simp [mblk] at hg⟩ (fun j c _ _ g _ => ⟨rfl, fun _ h => h, by simp [mblk]⟩) (v := .own i) ⟨by simp [updμ], none, 0, 0, by simp [updμ]⟩
  rw [ha] at this
  refine ⟨updμ μ i (.slice none 0 0), C, ?_⟩
  rw [(look_new s t i (.row E sz []) (.own i)).1, (look_new s t i (.row E sz []) (.own i)).2]
  exact this
end Go.Proofs.YtgehlcgjchfibaaGreatDoor.F
namespace Go.Proofs.YtgehlcgjchfibaaGreatDoor.F
open Go Go.RowKit
inductive Opd where
  | t (n : Nat)
  | c (v : AV)
  | g (n : Nat)
inductive IOp where
  | mv (x : Opd)
  | pick (c a b : Opd)
  | not (x : Opd)
  | neg (x : Opd)
  | bin (b : BinOp) (q : Option (List Nat)) (x y : Opd)
  | conv (k : IntKind) (x : Opd)
  | b2s (x : Opd)
  | alloc (T : TypeId) (z : List AV)
  | box (T : TypeId) (x : Opd)
  | build (z : List AV) (ps : List (Nat × Nat × Opd))
  | lit (own : Bool) (E sz : Nat) (ps : List Opd)
  | mk (E bytes : Nat) (z : AV) (n c : Opd)
  | ld (n : Option Nat) (x : Opd)
  | st (n : Nat) (x y : Opd)
  | fa (off : Nat) (n : Option Nat) (x : Opd)
  | fld (off : Nat) (n : Option Nat) (x : Opd)
  | ia (sz : Nat) (x i : Opd)
  | ga (sz len : Nat) (x i : Opd)
  | ix (x i : Opd)
  | ss (x : Opd) (lo hi : Option Opd)
  | sls (sz : Nat) (x : Opd) (lo hi : Option Opd)
  | ext (x : Opd) (i : Nat)
  | call (f : FuncId) (xs : List (Opd × Option Nat))
  | callm (f : FuncId) (x : Opd) (xs : List (Opd × Option Nat))
  | dcall (x : Opd) (xs : List (Opd × Option Nat))
  | len (q : Bool) (x : Opd)
  | app (E sz bytes : Nat) (s x : Opd)
  | mx (x y : Opd)
  | mn (x y : Opd)
  | raw (o : Oper)
inductive Hint where
  | any
  | ref
  | at (i off n : Nat)
structure IOper where
  d : Option Nat
  op : IOp
  g : Option (Nat × Bool)
  h : Hint
inductive IC where
  | skip
  | reg (ops : List IOper) (dr : Bool) (kt ko : List Nat)
  | seq (a b : IC)
  | cond (x : Opd) (a b : IC)
  | block (i : Nat) (a : IC)
  | loop (a : IC)
  | exit (i : Nat)
  | ret
def constAV : Value → Option AV
  | .int k n => some (.int k n)
  | .bool b => some (.bool b)
  | .string s => some (.str s.data.toList)
  | .slice none 0 0 => some .nil
  | _ => none
def compOpd : Operand → Option Opd
  | .tmp n => some (.t n)
  | .const v => (constAV v).map .c
  | .global n => some (.g n)
  | .func f => some (.c (.fn f))
def zeroAVs (P : Program) : Nat → TypeId → List AV
  | 0, _ => [.top]
  | n + 1, t => match P.underlying t with
    | some (.int k) => [.int k 0]
    | some .bool => [.bool false]
    | some .string => [.str []]
    | some (.slice e) => [.sl (P.cellsOf e) []]
    | some (.struct fs) => fs.toList.flatMap fun f => zeroAVs P n f.type
    | _ => [.top]
def okCell : AV → Value → Bool
  | .int k n, .int k' n' => k == k' && n == n'
  | .bool b, .bool b' => b == b'
  | .str s, .string s' => s == s'.data.toList
  | .sl _ [], .slice none 0 0 => true
  | .top, v => v.oneCell'
  | _, _ => false
def okCells : List AV → List Value → Bool
  | [], [] => true
  | x :: xs, u :: us => okCell x u && okCells xs us
  | _, _ => false
def zeroOf (P : Program) (t : TypeId) : Option (List AV) :=
  match P.underlying t, P.info? t with
  | some (.struct _), some i => match i.zero with
    | some (.agg us) => let z := zeroAVs P 9 t; if okCells z us.toList && i.size == us.size then some z else none
    | _ => none
  | _, _ => none
def aggOf (P : Program) (t : TypeId) : Option (Option Nat) :=
  match P.underlying t, P.info? t with
  | some (.struct _), some i => if i.size == 0 then none else some (some i.size)
  | some (.array _ _), _ => none
  | some _, some i => if i.size == 1 then some none else none
  | _, _ => none
def szOf : Option Nat → Nat
  | some n => n
  | none => 1
def fieldOf (P : Program) (t : TypeId) (f : Nat) : Option (Nat × Option Nat) :=
  match P.underlying t with
  | some (.struct fs) => match fs[f]? with
    | some fd => (aggOf P fd.type).map fun n => (fd.offset, n)
    | none => none
  | _ => none
def intOf? (P : Program) (t : TypeId) : Option IntKind := match P.underlying t with | some (.int k) => some k | _ => none
def elemOf? (P : Program) (t : TypeId) : Option TypeId := match P.underlying t with | some (.slice e) => some e | _ => none
def elemInfo (P : Program) (t : TypeId) : Option (Nat × Nat × Nat) :=
  match P.underlying t with
  | some (.slice e) => match P.info? e with
    | some i => match i.zero with
      | some z => if z.cells.size == i.size && 0 < i.size then some (e, i.size, i.bytes) else none
      | none => none
    | none => none
  | _ => none
def optM {α β : Type} (f : α → Option β) : Option α → Option (Option β)
  | none => some none
  | some x => (f x).map some
def argM (P : Program) : List Operand → List TypeId → Option (List (Opd × Option Nat))
  | [], [] => some []
  | x :: xs, t :: ts => match compOpd x, argM P xs ts with
    | some y, some ys => some ((y, (elemOf? P t).map P.cellsOf) :: ys)
    | _, _ => none
  | _, _ => none
def litM : Nat → List (Nat × Operand) → Option (List Opd)
  | _, [] => some []
  | n, (i, x) :: ps => if i = n then match compOpd x, litM (n + 1) ps with
      | some y, some ys => some (y :: ys)
      | _, _ => none
    else none
def partM (pl : List (Nat × Nat)) : List (Nat × Operand) → Option (List (Nat × Nat × Opd))
  | [] => some []
  | (i, x) :: ps => match pl[i]?, compOpd x, partM pl ps with
    | some f, some y, some ys => some ((f.1, f.2, y) :: ys)
    | _, _, _ => none
def tkind (P : Program) (t : TypeId) : Option Nat := match P.underlying t with | some (.int _) => some 0 | some .bool => some 1 | some .string => some 2 | _ => none
def eqFs (P : Program) : Nat → List Field → Option (List Nat)
  | _, [] => some []
  | k, f :: fs => match tkind P f.type, eqFs P (k + 1) fs with
    | some q, some qs => if f.name != "_" && f.offset == k then some (q :: qs) else none
    | _, _ => none
def eqOf (P : Program) (t : TypeId) : Option (List Nat) :=
  match P.underlying t with
  | some (.struct fs) => if !P.stoodInHeld t && !P.eqGuardType P.depth t then eqFs P 0 fs.toList else none
  | some .bool => some [9]
  | _ => none
def okF (P : Program) (f : FuncId) : Bool := match P.funcs[f]? with
  | some fn => fn.body.isSome && fn.name != "runtime.NumGoroutine"
  | none => false
def callI (ow : List Nat) (f : FuncId) (xs : List (Opd × Option Nat)) : IOp := if ow.contains (1000000 + f) then (match xs with | (x, _) :: xs => .callm f x xs | [] => .call f []) else .call f xs
def IOp.isCall : IOp → Bool
  | .call _ _ | .callm _ _ _ => true
  | _ => false
theorem callI_isCall {ow : List Nat} {f : FuncId} {xs : List (Opd × Option Nat)} {op : IOp} (h : callI ow f xs = op) : op.isCall = true := by
  subst h
  unfold callI
  split
  · split <;> rfl
  · rfl
theorem callI_no {ow : List Nat} {f : FuncId} {r : Option (List (Opd × Option Nat))} {op : IOp} (h : r.map (callI ow f) = some op) (hn : op.isCall = false) : False := by
  obtain ⟨xs, _, h⟩ := Option.map_eq_some_iff.1 h
  rw [callI_isCall h] at hn
  cases hn
def compOp (P : Program) (ow : List Nat) (o : Oper) : Option IOp :=
  match o.op with
  | .move x => (compOpd x).map .mv
  | .assign x => (compOpd x).map .mv
  | .pick c a b => match compOpd c, compOpd a, compOpd b with | some c, some a, some b => some (.pick c a b) | _, _, _ => none
  | .unOp .not _ x => (compOpd x).map .not
  | .unOp .neg _ x => (compOpd x).map .neg
  | .binOp b T x y _ => match compOpd x, compOpd y with | some x, some y => some (.bin b (eqOf P T) x y) | _, _ => none
  | .convert s d x => match compOpd x, intOf? P s, intOf? P d, P.underlying s, P.underlying d with
    | some x, some _, some k, _, _ => some (.conv k x)
    | some x, _, _, some (.slice e), some .string => if intOf? P e = some .u8 then some (.b2s x) else none
    | _, _, _, _, _ => none
  | .alloc T => (zeroOf P T).map (.alloc T)
  | .box T x => match aggOf P T, compOpd x with | some (some _), some x => some (.box T x) | _, _ => none
  | .build T ps => match P.underlying T, zeroOf P T with
    | some (.struct fs), some z => (match fs.toList.mapM (fun f => (P.info? f.type).map fun i => (f.offset, i.size)) with | some pl => (partM pl ps.toList).map (.build z) | none => none)
    | _, _ => none
  | .buildSlice T n ps => match elemInfo P T, litM 0 ps.toList with
    | some (e, sz, _), some xs => if n = xs.length ∧ n * sz ≤ 16777216 ∧ n ≠ 0 then some (.lit (match o.dst with | some d => ow.contains d | none => false) e sz xs) else none
    | _, _ => none
  | .makeSlice T n c => match elemInfo P T, compOpd n, compOpd c with
    | some (e, sz, by_), some n, some c => if sz = 1 then match zeroAVs P 1 e with | [z] => (match P.info? e with | some i => (match i.zero with | some zv => if okCell z zv && zv.oneCell' then some (.mk e by_ z n c) else none | none => none) | none => none) | _ => none else none
    | _, _, _ => none
  | .load T x => match aggOf P T, compOpd x with | some n, some x => some (.ld n x) | _, _ => none
  | .store T x y => match aggOf P T, compOpd x, compOpd y with | some n, some x, some y => some (.st (szOf n) x y) | _, _, _ => none
  | .fieldAddr T x f => match fieldOf P T f, compOpd x with | some (off, n), some x => some (.fa off n x) | _, _ => none
  | .field T x f => match fieldOf P T f, compOpd x with | some (off, n), some x => some (.fld off n x) | _, _ => none
  | .indexAddr T x i => match P.underlying T, compOpd x, compOpd i with
    | some (.slice e), some x, some i => if P.info? e |>.isSome then some (.ia (P.cellsOf e) x i) else none
    | some (.array n e), some x, some i => if P.info? e |>.isSome then some (.ga (P.cellsOf e) n x i) else none
    | _, _, _ => none
  | .index T x i => match P.underlying T, compOpd x, compOpd i with | some .string, some x, some i => some (.ix x i) | _, _, _ => none
  | .slice T x lo hi none => match P.underlying T, compOpd x, optM compOpd lo, optM compOpd hi with
    | some .string, some x, some lo, some hi => some (.ss x lo hi)
    | some (.slice e), some x, some lo, some hi => if P.info? e |>.isSome then some (.sls (P.cellsOf e) x lo hi) else none
    | _, _, _, _ => none
  | .extract x i => (compOpd x).map (.ext · i)
  | .call c => match c.callee with
    | .value (.func f) => if okF P f then (argM P c.args.toList c.argTypes.toList).map (callI ow f) else none
    | .value x => match compOpd x, argM P c.args.toList c.argTypes.toList with | some x, some xs => some (.dcall x xs) | _, _ => none
    | .builtin .len => match c.args.toList, c.argTypes.toList with
      | [x], [T] => match compOpd x, P.underlying T with | some x, some .string => some (.len true x) | some x, some (.slice _) => some (.len false x) | _, _ => none
      | _, _ => none
    | .builtin .append => match c.args.toList, c.argTypes.toList with
      | [s, x], [T, U] => if T = U then match elemInfo P T, compOpd s, compOpd x with | some (e, sz, by_), some s, some x => some (.app e sz by_ s x) | _, _, _ => none else none
      | _, _ => none
    | .builtin .max => match c.args.toList with | [x, y] => (match compOpd x, compOpd y with | some x, some y => some (.mx x y) | _, _ => none) | _ => none
    | .builtin .min => match c.args.toList with | [x, y] => (match compOpd x, compOpd y with | some x, some y => some (.mn x y) | _, _ => none) | _ => none
    | _ => none
  | _ => none
def opd (G : List (Nat × AV)) (s : St) : Opd → Option AV
  | .t n => look s.t n
  | .c v => some v
  | .g n => (look G n).map .ref
def AV.vok : AV → Bool
  | .box _ _ => false
  | .own _ => false
  | .elt _ _ => false
  | .tup _ => false
  | .top => false
  | _ => true
def val (G : List (Nat × AV)) (s : St) (x : Opd) : Option AV := match opd G s x with | some v => if v.vok then some v else none | none => none
def AV.one : AV → Bool
  | .agg _ => false
  | .tup _ => false
  | .top => false
  | _ => true
def avCells : AV → List AV
  | .agg cs => cs
  | v => [v]
def cut (cs : List AV) (off : Nat) : Option Nat → Option AV
  | none => cs[off]?
  | some n => if off + n ≤ cs.length then some (.agg ((cs.drop off).take n)) else none
def splice (cs : List AV) (off : Nat) (vs : List AV) : List AV := cs.take off ++ vs ++ cs.drop (off + vs.length)
def fillAV (G : List (Nat × AV)) (s : St) : List AV → List (Nat × Nat × Opd) → Option (List AV)
  | z, [] => some z
  | z, (off, n, x) :: ps => match val G s x with
    | some v => if (avCells v).length = n ∧ off + n ≤ z.length then fillAV G s (splice z off (avCells v)) ps else none
    | none => none
def isByte : AV → Prop
  | .int .u8 n => 0 ≤ n ∧ n < 256
  | _ => False
def byteOf : AV → UInt8
  | .int .u8 n => UInt8.ofNat n.toNat
  | _ => 0
def byteAV (b : UInt8) : AV := .int .u8 b.toNat
def eqCell : AV → AV → Option Bool
  | .int k x, .int k' y => if k = k' then some (x == y) else none
  | .bool x, .bool y => some (x == y)
  | .str x, .str y => some (x == y)
  | _, _ => none
def ckind : AV → Nat
  | .int _ _ => 0
  | .bool _ => 1
  | .str _ => 2
  | _ => 3
def eqCells : List AV → List AV → Option Bool
  | [], [] => some true
  | x :: xs, y :: ys => match eqCell x y, eqCells xs ys with
    | some a, some b => some (a && b)
    | _, _ => none
  | _, _ => none
def intCmp (b : BinOp) (x y : Int) : Option Bool :=
  match b with
  | .eql => some (x == y)
  | .neq => some (x != y)
  | .lss => some (decide (x < y))
  | .leq => some (decide (x ≤ y))
  | .gtr => some (decide (x > y))
  | .geq => some (decide (x ≥ y))
  | _ => none
def binV (b : BinOp) (q : Option (List Nat)) : AV → AV → Option (Prop × AV)
  | .int k x, .int k' y => if k = k' then match b with
      | .add => some (True, .int k (k.wrap (x + y)))
      | .sub => some (True, .int k (k.wrap (x - y)))
      | .mul => some (True, .int k (k.wrap (x * y)))
      | .quo => some (y ≠ 0, .int k (k.wrap (x.tdiv y)))
      | .rem => some (y ≠ 0, .int k (x.tmod y))
      | .eql => some (True, .bool (x == y))
      | .neq => some (True, .bool (x != y))
      | .lss => some (True, .bool (decide (x < y)))
      | .leq => some (True, .bool (decide (x ≤ y)))
      | .gtr => some (True, .bool (decide (x > y)))
      | .geq => some (True, .bool (decide (x ≥ y)))
      | _ => none
    else none
  | .bool x, .bool y => match b with
      | .eql => some (q = some [9], .bool (x == y))
      | .neq => some (q = some [9], .bool (x != y))
      | _ => none
  | .str x, .str y => match b with
      | .add => some (x.length + y.length ≤ 9223372036854775807, .str (x ++ y))
      | .eql => some (True, .bool (x == y))
      | .neq => some (True, .bool (x != y))
      | .lss => some (True, .bool (Op.bytesLess x y))
      | _ => none
  | .agg xs, .agg ys => match b, eqCells xs ys with
      | .eql, some r => some (q = some (xs.map ckind), .bool r)
      | .neq, some r => some (q = some (xs.map ckind), .bool (!r))
      | _, _ => none
  | _, _ => none
def loV (G : List (Nat × AV)) (s : St) : Option Opd → Option Int
  | none => some 0
  | some x => match opd G s x with | some (.int _ n) => some n | _ => none
def hiV (G : List (Nat × AV)) (s : St) (n : Nat) : Option Opd → Option Int
  | none => some n
  | some x => match opd G s x with | some (.int _ n) => some n | _ => none
def pureV (G : List (Nat × AV)) (s : St) : IOp → Option (Prop × AV)
  | .mv x => (opd G s x).map fun v => (True, v)
  | .pick c a b => match opd G s c with
    | some (.bool c) => if c = true then (opd G s a).map fun v => (True, v) else (opd G s b).map fun v => (True, v)
    | _ => none
  | .not x => match opd G s x with | some (.bool b) => some (True, .bool (!b)) | _ => none
  | .neg x => match opd G s x with | some (.int k n) => some (True, .int k (k.wrap (0 - n))) | _ => none
  | .bin b q x y => match opd G s x, opd G s y with | some u, some v => binV b q u v | _, _ => none
  | .conv k x => match opd G s x with | some (.int _ n) => some (True, .int k (k.wrap n)) | _ => none
  | .b2s x => match opd G s x with
    | some (.sl sz xs) => some (sz = 1 ∧ ∀ x ∈ xs, isByte x, .str (xs.map byteOf))
    | _ => none
  | .build z ps => (fillAV G s z ps).map fun cs => (True, .agg cs)
  | .ld n x => match opd G s x with
    | some (.box i off) => match look s.o i with
      | some (.box _ cs) => (cut cs off n).map fun v => (True, v)
      | _ => none
    | some (.elt i j) => match look s.o i, n with
      | some (.row _ sz xs), none => some (sz = 1 ∧ j < xs.length ∧ (xs.getD j .top).one = true, xs.getD j .top)
      | _, _ => none
    | some (.ref v) => match n, v with
      | none, v => some (v.one = true, v)
      | some n, .agg cs => some (cs.length = n, .agg cs)
      | _, _ => none
    | _ => none
  | .fa off n x => match opd G s x with
    | some (.box i o) => some (True, .box i (o + off))
    | some (.ref (.agg cs)) => (cut cs off n).map fun v => (True, .ref v)
    | some (.ref (.fn f)) => some (off = 0 ∧ n = none, .ref (.fn f))
    | _ => none
  | .fld off n x => match opd G s x with
    | some (.agg cs) => (cut cs off n).map fun v => (True, v)
    | _ => none
  | .ia sz x i => match opd G s x, opd G s i with
    | some (.sl sz' xs), some (.int _ n) => some (sz' = sz ∧ 0 ≤ n ∧ n < xs.length, .ref (xs.getD n.toNat .top))
    | some (.own j), some (.int _ n) => match look s.o j with
      | some (.row _ sz' xs) => some (sz' = sz ∧ sz = 1 ∧ 0 ≤ n ∧ n < xs.length, .elt j n.toNat)
      | _ => none
    | _, _ => none
  | .ga sz len x i => match opd G s x, opd G s i with
    | some (.ref (.agg cs)), some (.int _ n) => some (sz = 1 ∧ 0 ≤ n ∧ n < len ∧ len ≤ cs.length, .ref (cs.getD n.toNat .top))
    | some (.box j off), some (.int _ n) => some (sz = 1 ∧ 0 ≤ n ∧ n < len, .box j (off + n.toNat))
    | _, _ => none
  | .ix x i => match opd G s x, opd G s i with
    | some (.str s), some (.int _ n) => some (0 ≤ n ∧ n < s.length, .int .u8 (s.getD n.toNat 0).toNat)
    | _, _ => none
  | .ss x lo hi => match opd G s x with
    | some (.str t) => match loV G s lo, hiV G s t.length hi with
      | some l, some h => some (0 ≤ l ∧ l ≤ h ∧ h ≤ t.length, .str ((t.drop l.toNat).take (h.toNat - l.toNat)))
      | _, _ => none
    | _ => none
  | .sls sz x lo hi => match opd G s x with
    | some (.sl sz' xs) => match loV G s lo, hiV G s xs.length hi with
      | some l, some h => some (sz' = sz ∧ 0 ≤ l ∧ l ≤ h ∧ h ≤ xs.length, .sl sz ((xs.drop l.toNat).take (h.toNat - l.toNat)))
      | _, _ => none
    | _ => none
  | .ext x i => match opd G s x with
    | some (.tup vs) => (vs[i]?).map fun v => (True, v)
    | _ => none
  | .len true x => match opd G s x with
    | some (.str t) => some (True, .int .i64 t.length)
    | _ => none
  | .len false x => match opd G s x with
    | some (.sl _ xs) => some (True, .int .i64 xs.length)
    | some .nil => some (True, .int .i64 0)
    | some (.own j) => match look s.o j with
      | some (.row _ _ xs) => some (True, .int .i64 xs.length)
      | _ => none
    | _ => none
  | .mx x y => match opd G s x, opd G s y with
    | some (.int k x), some (.int _ y) => some (True, .int k (if x < y then y else x))
    | _, _ => none
  | .mn x y => match opd G s x, opd G s y with
    | some (.int k x), some (.int _ y) => some (True, .int k (if y < x then y else x))
    | _, _ => none
  | _ => none
def St.frz (s : St) (i : Nat) : St := match look s.o i with | some (.row _ sz xs) => ⟨frzT i (.sl sz xs) s.t, dropO i s.o⟩ | _ => s
def St.norm (s : St) : List Opd → St
  | [] => s
  | .t n :: xs => match look s.t n with | some (.own i) => (s.frz i).norm xs | _ => s.norm xs
  | _ :: xs => s.norm xs
def IOp.opds : IOp → List Opd
  | .mv x | .not x | .neg x | .conv _ x | .b2s x | .box _ x | .ld _ x | .fa _ _ x | .fld _ _ x | .ext x _ | .len _ x => [x]
  | .pick c a b => [c, a, b]
  | .bin _ _ x y | .st _ x y | .ia _ x y | .ga _ _ x y | .ix x y | .app _ _ _ x y | .mx x y | .mn x y | .mk _ _ _ x y => [x, y]
  | .alloc _ _ => []
  | .build _ ps => ps.map fun p => p.2.2
  | .lit _ _ _ ps => ps
  | .ss x l h | .sls _ x l h => x :: (l.toList ++ h.toList)
  | .call _ xs => xs.map fun p => p.1
  | .callm _ x xs => x :: xs.map fun p => p.1
  | .dcall x xs => x :: xs.map fun p => p.1
  | .raw _ => []
def IOp.isRaw : IOp → Bool
  | .raw _ => true
  | _ => false
def IOp.rd : IOp → Bool
  | .ld _ _ | .ia _ _ _ | .len _ _ => true
  | _ => false
def IOp.vals : IOp → List Opd
  | .b2s x => [x]
  | .box _ x => [x]
  | .build _ ps => ps.map fun p => p.2.2
  | .lit _ _ _ ps => ps
  | .st _ _ y => [y]
  | .sls _ x _ _ => [x]
  | .call _ xs => xs.map fun p => p.1
  | .callm _ _ xs => xs.map fun p => p.1
  | .dcall _ xs => xs.map fun p => p.1
  | .app _ _ _ _ x => [x]
  | _ => []
def argV (G : List (Nat × AV)) (s : St) : List (Opd × Option Nat) → Option (List AV)
  | [] => some []
  | (x, n) :: xs => match val G s x, argV G s xs with
    | some v, some vs => some ((match v, n with | .nil, some sz => .sl sz [] | v, _ => v) :: vs)
    | _, _ => none
def valsV (G : List (Nat × AV)) (s : St) (n : Nat) : List Opd → Option (List AV)
  | [] => some []
  | x :: xs => match val G s x, valsV G s n xs with
    | some v, some vs => if (avCells v).length = n then some (v :: vs) else none
    | _, _ => none
structure Env where
  P : Program
  G : List (Nat × AV)
def ConO (P : Program) (G : List (Nat × AV)) (f : FuncId) (args : List AV) (E sz : Nat) (xs : List AV) : Prop :=
  ∀ (w : World) (C : Nat → Nat → Prop) (us : Array Value), (∀ b o, C b o → b < w.heap.size) → GRel G C w → RelL C w args us.toList →
    Calls P f us w fun e w' => ∃ u C', e = .returned u ∧ Below w.heap.size w w' ∧ (∀ b o, C b o → C' b o) ∧ (∀ b o, C' b o → b < w'.heap.size ∧ (C b o ∨ w.heap.size ≤ b)) ∧ ObRel C' w' (fun k => w.heap.size ≤ k) (.row E sz xs) u
def ConM (P : Program) (G : List (Nat × AV)) (f : FuncId) (E sz : Nat) (xs : List AV) (args : List AV) (xs' : List AV) : Prop :=
  ∀ (w : World) (C : Nat → Nat → Prop) (own : Nat → Prop) (m : Value) (us : List Value), (∀ b o, C b o → b < w.heap.size) → GRel G C w → (∀ k, w.heap.size ≤ k → own k) → ObRel C w own (.row E sz xs) m → RelL C w args us →
    Calls P f (m :: us).toArray w fun e w' => ∃ C', e = .returned (.tuple #[]) ∧ w'.os = w.os ∧ w'.tape = w.tape ∧ w'.output = w.output ∧ w.heap.size ≤ w'.heap.size ∧ (∀ k, k < w.heap.size → mblk m ≠ some k → w'.heap[k]? = w.heap[k]?) ∧
      (∀ b o, C b o → C' b o) ∧ (∀ b o, C' b o → b < w'.heap.size ∧ (C b o ∨ w.heap.size ≤ b)) ∧ ObRel C' w' own (.row E sz xs') m
def callD (X : Env) (f : FuncId) (args : List AV) (d : Option Nat) (K : St → Prop) (s : St) : Prop := ∃ r, r.plain = true ∧ Con X.P X.G f args r ∧ K (s.putD d r)
def callK (X : Env) (f : FuncId) (args : List AV) (d : Option Nat) (K : St → Prop) (s : St) : Prop := callD X f args d K s ∨ ∃ E sz xs t, d = some t ∧ ConO X.P X.G f args E sz xs ∧ K (s.new t t (.row E sz xs) (.own t))
def callM (X : Env) (f : FuncId) (i E sz : Nat) (xs args : List AV) (d : Option Nat) (K : St → Prop) (s : St) : Prop := ∃ xs', ConM X.P X.G f E sz xs args xs' ∧ K ((s.upd i (.row E sz xs')).putD d (.tup []))
def rawK (X : Env) (ro : Oper) (K : St → Prop) (s : St) : Prop := ∀ (Y : Ctx) (a : Act) (w : World) (Q : Exit → Act → World → Prop), Y.P = X.P → Y.G = X.G → (∀ d, ro.dst = some d → d < Y.nt) → Inv Y s a w →
  ro.wp Y.P a w (fun a' w' => ∃ s', Inv Y s' a' w' ∧ K s') Q
def E1 (X : Env) (dr : Bool) (o : IOper) (K : St → Prop) (s0 : St) : Prop :=
  let s := if dr then s0 else s0.norm o.op.vals
  match o.op with
  | .alloc T z => match o.d with | some d => K (s.new d d (.box T z) (.box d 0)) | none => False
  | .box T x => match o.d, val X.G s x with
    | some d, some (.agg cs) => K (s.new d d (.box T cs) (.box d 0))
    | _, _ => False
  | .st n x y => match opd X.G s x, val X.G s y with
    | some (.box i off), some v => match look s.o i with
      | some (.box T cs) => (o.d = none ∧ (avCells v).length = n ∧ off + n ≤ cs.length) ∧ K (s.upd i (.box T (splice cs off (avCells v))))
      | _ => False
    | some (.elt i j), some v => match look s.o i with
      | some (.row E sz xs) => (o.d = none ∧ n = 1 ∧ sz = 1 ∧ j < xs.length ∧ v.one = true) ∧ K (s.upd i (.row E sz (xs.set j v)))
      | _ => False
    | _, _ => False
  | .lit own E sz ps => match o.d, valsV X.G s sz ps with
    | some d, some vs => if own then dr = false ∧ K (s.new d d (.row E sz vs) (.own d)) else K (s.put d (.sl sz vs))
    | _, _ => False
  | .mk E bytes z n c => match o.d, opd X.G s n, opd X.G s c with
    | some d, some (.int .i64 n), some (.int .i64 c) => (dr = false ∧ 0 ≤ n ∧ n ≤ c ∧ c * bytes ≤ 281474976710656 ∧ c ≤ 281474976710656) ∧ K (s.new d d (.row E 1 (List.replicate n.toNat z)) (.own d))
    | _, _, _ => False
  | .app E sz bytes a x => match o.d, opd X.G s a, val X.G s x with
    | some d, some (.own i), some (.sl sz' ys) => match look s.o i with
      | some (.row E' sz'' xs) => (dr = false ∧ i ≠ pinned ∧ E' = E ∧ sz'' = sz ∧ sz' = sz ∧ (xs.length + ys.length) * bytes ≤ 140737488355328 ∧ xs.length + ys.length ≤ 140737488355328) ∧ K (s.new d i (.row E sz (xs ++ ys)) (.own i))
      | _ => False
    | some d, some .nil, some (.sl sz' ys) => (dr = false ∧ sz' = sz ∧ ys.length * bytes ≤ 140737488355328 ∧ ys.length ≤ 140737488355328) ∧ K (s.new d d (.row E sz ys) (.own d))
    | _, _, _ => False
  | .call f xs => match argV X.G s xs with
    | some vs => callK X f vs o.d K s
    | none => False
  | .callm f x xs => match opd X.G s x, argV X.G s xs with
    | some (.own i), some vs => match look s.o i with
      | some (.row E sz ys) => dr = false ∧ callM X f i E sz ys vs o.d K s
      | _ => False
    | _, _ => False
  | .dcall x xs => match opd X.G s x, argV X.G s xs with
    | some (.fn f), some vs => okF X.P f = true ∧ callK X f vs o.d K s
    | _, _ => False
  | .raw ro => rawK X ro K s
  | op => match pureV X.G s op with
    | some (p, v) => p ∧ K (s.putD o.d v)
    | none => False
def ER (X : Env) (dr : Bool) : List IOper → (St → Prop) → St → Prop
  | [], K, s => K s
  | o :: os, K, s => match o.g with
    | none => E1 X dr o (ER X dr os K) s
    | some (g, want) => match look s.t g with
      | some (.bool b) => if b = want then E1 X dr o (ER X dr os K) s else ER X dr os K (s.putD o.d (.tup []))
      | some (.tup []) => ER X dr os K (s.putD o.d (.tup []))
      | _ => False
def keepT (ks : List Nat) (l : List (Nat × AV)) : List (Nat × AV) := ks.filterMap fun k => (look l k).map fun v => (k, v)
def keepO (ks : List Nat) (l : List (Nat × Ob)) : List (Nat × Ob) := ks.filterMap fun k => (look l k).map fun v => (k, v)
def St.keep (s : St) (kt ko : List Nat) : St := ⟨keepT kt s.t, keepO ko s.o⟩
end Go.Proofs.YtgehlcgjchfibaaGreatDoor.F
namespace Go.Proofs.YtgehlcgjchfibaaGreatDoor.F
open Go Go.RowKit
theorem constAV_rel {C : Nat → Nat → Prop} {w : World} {u : Value} {v : AV} (h : constAV u = some v) : Rel C w v u ∧ v.plain = true ∧ ∀ i, v.nid i = true := by
  unfold constAV at h
  split at h <;> first | (injection h with h; subst h) | cases h
  · exact ⟨.int _ _, rfl, fun _ => rfl⟩
  · exact ⟨.bool _, rfl, fun _ => rfl⟩
  · exact ⟨.str _, rfl, fun _ => rfl⟩
  · exact ⟨.nil, rfl, fun _ => rfl⟩
def Know (X : Env) (base : Nat → Prop) (μ : Nat → Value) (C : Nat → Nat → Prop) (w : World) (s : St) (a : Act) (rd : Bool) (ys : List Opd) : Prop :=
  ∀ y ∈ ys, ∀ x, compOpd x = some y → ∀ v, opd X.G s y = some v → TRel μ C w v (a.eval x) ∧ (rd = true → ∀ i b, v.nid i = false → look s.o i = some b → ObRel C w base b (μ i))
theorem look_mem {α : Type} : ∀ {l : List (Nat × α)} {n : Nat} {z : α}, look l n = some z → (n, z) ∈ l
  | [], n, z, h => by simp [look] at h
  | p :: l, n, z, h => by
    simp only [look] at h
    split at h
    · rename_i e; injection h with h; subst e h; simp
    · exact List.mem_cons_of_mem _ (look_mem h)
theorem InvAt.knowT {X : Ctx} {μ : Nat → Value} {C : Nat → Nat → Prop} {T : Nat → Option AV} {O : Nat → Option Ob} {a : Act} {w : World} (h : InvAt X μ C T O a w) (s : St) (rd : Bool) (ys : List Opd) (hT : ∀ n, Opd.t n ∈ ys → look s.t n = T n)
    (hO : rd = true → ∀ y ∈ ys, ∀ v i b, opd X.G s y = some v → v.nid i = false → look s.o i = some b → O i = some b) : Know ⟨X.P, X.G⟩ X.ow μ C w s a rd ys := by
  intro y hy x hx v hv
  refine ⟨?_, fun hr i b hn hi => h.ob i b (hO hr y hy v i b hv hn hi)⟩
  cases x with
  | tmp n =>
    simp only [compOpd, Option.some.injEq] at hx; subst hx
    obtain ⟨u, h1, h2⟩ := h.tm n v (by rw [← hT n hy]; exact hv)
    simpa [Act.eval, Array.getD_eq_getD_getElem?, h1] using h2
  | const u =>
    simp only [compOpd, Option.map_eq_some_iff] at hx
    obtain ⟨z, hz, rfl⟩ := hx
    simp only [opd, Option.some.injEq] at hv; subst hv
    exact .of_rel (constAV_rel hz).1
  | global n =>
    simp only [compOpd, Option.some.injEq] at hx; subst hx
    simp only [opd, Option.map_eq_some_iff] at hv
    obtain ⟨z, hz, rfl⟩ := hv
    exact h.gr n z (look_mem hz)
  | func f =>
    simp only [compOpd, Option.some.injEq] at hx; subst hx
    simp only [opd, Option.some.injEq] at hv; subst hv
    exact .fn f
theorem InvAt.know {X : Ctx} {μ : Nat → Value} {C : Nat → Nat → Prop} {s : St} {a : Act} {w : World} (h : InvAt X μ C (look s.t) (look s.o) a w) (rd : Bool) (ys : List Opd) : Know ⟨X.P, X.G⟩ X.ow μ C w s a rd ys :=
  h.knowT s rd ys (fun _ _ => rfl) fun _ _ _ _ _ _ _ _ hi => hi
section
variable {μ : Nat → Value} {C : Nat → Nat → Prop} {w : World} {u : Value}
theorem TRel.int_inv {k : IntKind} {n : Int} (h : TRel μ C w (.int k n) u) : u = .int k n := by cases h; rfl
theorem TRel.bool_inv {b : Bool} (h : TRel μ C w (.bool b) u) : u = .bool b := by cases h; rfl
theorem TRel.nil_inv (h : TRel μ C w .nil u) : u = .slice none 0 0 := by cases h; rfl
theorem TRel.str_inv {s : List UInt8} (h : TRel μ C w (.str s) u) : u = .string ⟨s.toArray⟩ := by cases h; rfl
theorem TRel.fn_inv {f : FuncId} (h : TRel μ C w (.fn f) u) : u = .func (.func f) #[] #[] := by cases h; rfl
theorem TRel.agg_inv {cs : List AV} (h : TRel μ C w (.agg cs) u) : ∃ us, u = .agg (List.toArray us) ∧ RelL C w cs us ∧ ∀ v ∈ us, v.oneCell' = true := by
  cases h with | agg _ us hl h h1 => exact ⟨us, rfl, ⟨hl, h⟩, h1⟩
theorem TRel.tup_inv {cs : List AV} (h : TRel μ C w (.tup cs) u) : ∃ us, u = .tuple (List.toArray us) ∧ RelL C w cs us := by
  cases h with | tup _ us hl h => exact ⟨us, rfl, ⟨hl, h⟩⟩
theorem TRel.sl_inv {sz : Nat} {xs : List AV} (h : TRel μ C w (.sl sz xs) u) : ∃ A cap, u = .slice A xs.length cap ∧ (∀ a, A = some a → a.spot = none) ∧ (xs ≠ [] → ∃ b off, ∃ us : Nat → Value, A = some ⟨b, off, none⟩ ∧ xs.length ≤ cap ∧ (∀ (i : Nat) x, xs[i]? = some x → Rel C w x (us i)) ∧ (∀ i, i < xs.length → (us i).cells.size = sz ∧ ∀ c ∈ (us i).cells.toList, c.oneCell' = true) ∧
    ∀ i j c, i < xs.length → (us i).cells[j]? = some c → C b (off + (i * sz + j)) ∧ w.cell? ⟨b, off + (i * sz + j), none⟩ = some c) := by
  cases h with
  | sl0 _ A cap hA => exact ⟨A, cap, rfl, hA, fun h => absurd rfl h⟩
  | sl _ _ b off cap us hc h hs hw => exact ⟨_, cap, rfl, fun a h => (by injection h with h; subst h; rfl), fun _ => ⟨b, off, us, rfl, hc, h, hs, hw⟩⟩
theorem TRel.ref_inv {v : AV} (h : TRel μ C w (.ref v) u) : ∃ x b off, u = .pointer (some ⟨b, off, none⟩) ∧ Rel C w v x ∧ ∀ (j : Nat) c, x.cells[j]? = some c → C b (off + j) ∧ w.cell? ⟨b, off + j, none⟩ = some c := by
  cases h with | ref _ x b off h hw => exact ⟨x, b, off, rfl, h, hw⟩
end
theorem Rel.one {C : Nat → Nat → Prop} {w : World} {x : AV} {u : Value} (h : Rel C w x u) (hx : x.one = true) : u.oneCell' = true ∧ u.cells = #[u] := by
  cases h <;> first | exact ⟨rfl, rfl⟩ | simp [AV.one] at hx
section
variable {P : Program} {w : World}
theorem run_isAgg_no {t : TypeId} {d : TypeDesc} (h : P.underlying t = some d) (hd : d.isRow = false) : (isAgg t).run P w = .ok false w := by
  unfold isAgg
  rw [Sem.run_bind, run_underlying h w]
  cases d <;> simp_all
theorem run_isAgg_yes {t : TypeId} {d : TypeDesc} (h : P.underlying t = some d) (hd : d.isRow = true) : (isAgg t).run P w = .ok true w := by
  unfold isAgg
  rw [Sem.run_bind, run_underlying h w]
  cases d <;> simp_all
theorem aggOf_some {t : TypeId} {n : Nat} (h : aggOf P t = some (some n)) : ∃ fs i, P.underlying t = some (.struct fs) ∧ P.info? t = some i ∧ i.size = n ∧ n ≠ 0 := by
  unfold aggOf at h
  split at h
  · rename_i fs i h1 h2
    split at h
    · cases h
    · rename_i h3
      simp at h
      exact ⟨fs, i, h1, h2, h, by simpa [h] using h3⟩
  · cases h
  · split at h <;> cases h
  · cases h
theorem aggOf_none {t : TypeId} (h : aggOf P t = some none) : ∃ d i, P.underlying t = some d ∧ d.isRow = false ∧ P.info? t = some i ∧ i.size = 1 := by
  unfold aggOf at h
  split at h
  · split at h <;> cases h
  · cases h
  · rename_i d i h1 h2 h3 h4
    split at h
    · rename_i h5
      refine ⟨d, i, h3, ?_, h4, by simpa using h5⟩
      cases d <;> first | rfl | (exact absurd rfl (by first | exact h1 _ i · h4 | exact h2 _ _ ·)) | skip
      all_goals simp_all
    · cases h
  · cases h
end
section
variable {P : Program} {w : World} {C : Nat → Nat → Prop} {μ : Nat → Value}
theorem run_load_cut {t : TypeId} {n : Option Nat} {cs : List AV} {us : List Value} {b off : Nat} {v : AV} (ht : aggOf P t = some n) (hr : RelL C w cs us) (h1 : ∀ u ∈ us, u.oneCell' = true)
    (hm : ∀ (j : Nat) c, us[j]? = some c → w.cell? ⟨b, j, none⟩ = some c) (hc : cut cs off n = some v) :
    ∃ u, (Instr.loadAt t (.pointer (some ⟨b, off, none⟩))).run P w = .ok u w ∧ Rel C w v u := by
  cases n with
  | none =>
    obtain ⟨d, i, hu, hd, _, _⟩ := aggOf_none ht
    simp only [cut] at hc
    have hlt : off < us.length := by rw [← hr.1]; exact (List.getElem?_eq_some_iff.1 hc).1
    have hx := List.getElem?_eq_getElem hlt
    refine ⟨us[off], ?_, hr.2 off v _ hc hx⟩
    simp only [Instr.loadAt, Instr.sureAddr, loadVar, Sem.run_bind, Sem.run_pure, Result.andThen_ok, run_isAgg_no hu hd, Bool.false_eq_true, if_false, run_load, hm off _ hx]
  | some m =>
    obtain ⟨fs, i, hu, hi, hsz, hm0⟩ := aggOf_some ht
    simp only [cut] at hc
    split at hc
    · rename_i hle
      injection hc with hc
      subst hc
      have hlen := hr.1
      have hl2 : ((us.drop off).take m).length = m := by rw [List.length_take, List.length_drop]; omega
      refine ⟨.agg ((us.drop off).take m).toArray, ?_, .agg _ _ (by rw [hl2, List.length_take, List.length_drop]; omega) (fun k c u hk hk2 => ?_) (fun u hu => h1 u (List.mem_of_mem_drop (List.mem_of_mem_take hu)))⟩
      · refine run_loadAt_mid w b off t _ (.struct fs) (fun j c hj => ?_) hu rfl (by rw [hi, hl2]; simp [hsz])
        rw [List.getElem?_take] at hj
        split at hj
        · rw [List.getElem?_drop] at hj
          exact hm _ _ hj
        · cases hj
      · rw [List.getElem?_take] at hk hk2
        split at hk
        · rename_i hkm
          rw [if_pos hkm, List.getElem?_drop] at hk2
          rw [List.getElem?_drop] at hk
          exact hr.2 _ _ _ hk hk2
        · cases hk
    · cases hc
theorem box_cells {us : List Value} {g : Nat} {T : TypeId} (hh : w.heap[g]? = some (.cells us.toArray T (0, 0))) (j : Nat) (c : Value) (hj : us[j]? = some c) : w.cell? ⟨g, j, none⟩ = some c := by
  simp [World.cell?, hh, hj]
theorem run_load_ref {t : TypeId} {n : Option Nat} {v : AV} {x : Value} {b off : Nat} (ht : aggOf P t = some n) (hr : Rel C w v x) (hm : ∀ (j : Nat) c, x.cells[j]? = some c → w.cell? ⟨b, off + j, none⟩ = some c)
    (hn : match n, v with | none, .agg _ => False | none, .tup _ => False | none, .top => False | none, _ => True | some m, .agg cs => cs.length = m | some _, _ => False) :
    ∃ u, (Instr.loadAt t (.pointer (some ⟨b, off, none⟩))).run P w = .ok u w ∧ Rel C w v u := by
  cases n with
  | none =>
    obtain ⟨d, i, hu, hd, _, _⟩ := aggOf_none ht
    have h1 : v.one = true := by cases v <;> first | rfl | exact hn.elim
    obtain ⟨h2, h3⟩ := hr.one h1
    refine ⟨x, ?_, hr⟩
    have := hm 0 x (by rw [h3]; rfl)
    simp only [Nat.add_zero] at this
    simp only [Instr.loadAt, Instr.sureAddr, loadVar, Sem.run_bind, Sem.run_pure, Result.andThen_ok, run_isAgg_no hu hd, Bool.false_eq_true, if_false, run_load, this]
  | some m =>
    obtain ⟨fs, i, hu, hi, hsz, hm0⟩ := aggOf_some ht
    cases v <;> first | exact hn.elim | skip
    rename_i cs
    obtain ⟨us, rfl, hl, h1⟩ := (TRel.of_rel (μ := fun _ => undef) hr).agg_inv
    refine ⟨.agg us.toArray, run_loadAt_mid w b off t us (.struct fs) (fun j c hj => hm j c (by simpa [Value.cells] using hj)) hu rfl (by rw [hi]; have := hl.1; simp; simp at hn; omega), hr⟩
theorem fieldOf_some {t : TypeId} {f off : Nat} {n : Option Nat} (h : fieldOf P t f = some (off, n)) : ∃ (fs : Array Field) (fd : Field), P.underlying t = some (.struct fs) ∧ fs[f]? = some fd ∧ fd.offset = off ∧ aggOf P fd.type = some n := by
  unfold fieldOf at h
  split at h
  · rename_i fs hu
    split at h
    · rename_i fd hf
      simp only [Option.map_eq_some_iff, Prod.mk.injEq] at h
      obtain ⟨m, hm, rfl, rfl⟩ := h
      exact ⟨fs, fd, hu, hf, rfl, hm⟩
    · cases h
  · cases h
theorem aggOf_size {t : TypeId} {n : Option Nat} (h : aggOf P t = some n) : ∃ i, P.info? t = some i ∧ i.size = szOf n ∧ i.size ≠ 0 := by
  cases n with
  | none => obtain ⟨d, i, _, _, hi, hs⟩ := aggOf_none h; exact ⟨i, hi, hs, by omega⟩
  | some m => obtain ⟨fs, i, _, hi, hs, h0⟩ := aggOf_some h; exact ⟨i, hi, hs, by omega⟩
theorem run_fieldAt {t : TypeId} {f off : Nat} {n : Option Nat} (h : fieldOf P t f = some (off, n)) (b o : Nat) : (Instr.fieldAt t (.pointer (some ⟨b, o, none⟩)) f).run P w = .ok (.pointer (some ⟨b, o + off, none⟩)) w := by
  obtain ⟨fs, fd, hu, hf, rfl, hn⟩ := fieldOf_some h
  obtain ⟨i, hi, _, h0⟩ := aggOf_size hn
  simp only [Instr.fieldAt, Sem.run_bind, run_underlying hu, Result.andThen_ok, hf, Instr.sureAddr, Sem.run_pure, fieldPlace, sizeOf, run_typeInfo w hi, if_neg h0, Addr.add_mid]
theorem run_field {t : TypeId} {f off : Nat} {n : Option Nat} {cs : List AV} {us : List Value} {v : AV} (h : fieldOf P t f = some (off, n)) (hr : RelL C w cs us) (h1 : ∀ u ∈ us, u.oneCell' = true) (hc : cut cs off n = some v) :
    ∃ u, (Instr.field t (.agg us.toArray) f).run P w = .ok u w ∧ Rel C w v u := by
  obtain ⟨fs, fd, hu, hf, rfl, hn⟩ := fieldOf_some h
  cases n with
  | none =>
    obtain ⟨d, i, hu2, hd, _, _⟩ := aggOf_none hn
    simp only [cut] at hc
    have hlt : fd.offset < us.length := by rw [← hr.1]; exact (List.getElem?_eq_some_iff.1 hc).1
    have hx := List.getElem?_eq_getElem hlt
    refine ⟨us[fd.offset], ?_, hr.2 _ v _ hc hx⟩
    simp only [Instr.field, Sem.run_bind, run_underlying hu, Result.andThen_ok, hf, asAgg, Sem.run_pure, part, run_isAgg_no hu2 hd, Bool.false_eq_true, if_false, List.getElem?_toArray, hx]
  | some m =>
    obtain ⟨fs2, i, hu2, hi, hsz, hm0⟩ := aggOf_some hn
    simp only [cut] at hc
    split at hc
    · rename_i hle
      injection hc with hc
      subst hc
      have hlen := hr.1
      have hl2 : ((us.drop fd.offset).take m).length = m := by rw [List.length_take, List.length_drop]; omega
      refine ⟨.agg ((us.drop fd.offset).take m).toArray, ?_, .agg _ _ (by rw [hl2, List.length_take, List.length_drop]; omega) (fun k c u hk hk2 => ?_) (fun u hu => h1 u (List.mem_of_mem_drop (List.mem_of_mem_take hu)))⟩
      · simp only [Instr.field, Sem.run_bind, run_underlying hu, Result.andThen_ok, hf, asAgg, Sem.run_pure, part, run_isAgg_yes hu2 rfl, if_true, sizeOf, run_typeInfo w hi, hsz]
        congr 2
        apply Array.ext'
        simp [List.take_drop, Nat.add_comm]
      · rw [List.getElem?_take] at hk hk2
        split at hk
        · rename_i hkm
          rw [if_pos hkm, List.getElem?_drop] at hk2
          rw [List.getElem?_drop] at hk
          exact hr.2 _ _ _ hk hk2
        · cases hk
    · cases hc
theorem ref_cut {cs : List AV} {us : List Value} {b o off : Nat} {n : Option Nat} {v : AV} (hr : RelL C w cs us) (h1 : ∀ u ∈ us, u.oneCell' = true) (hm : ∀ (j : Nat) c, us[j]? = some c → C b (o + j) ∧ w.cell? ⟨b, o + j, none⟩ = some c) (hc : cut cs off n = some v) :
    Rel C w (.ref v) (.pointer (some ⟨b, o + off, none⟩)) := by
  cases n with
  | none =>
    simp only [cut] at hc
    have hlt : off < us.length := by rw [← hr.1]; exact (List.getElem?_eq_some_iff.1 hc).1
    have hx := List.getElem?_eq_getElem hlt
    have ho := h1 _ (List.getElem_mem hlt)
    have hcell : us[off].cells = #[us[off]] := by revert ho; cases us[off] <;> simp [Value.oneCell', Value.cells]
    refine .ref v us[off] b (o + off) (hr.2 off v _ hc hx) fun j c hj => ?_
    rw [hcell] at hj
    cases j with
    | zero => simp at hj; subst hj; simpa using hm off _ hx
    | succ j => simp at hj
  | some m =>
    simp only [cut] at hc
    split at hc
    · rename_i hle
      injection hc with hc
      subst hc
      have hlen := hr.1
      refine .ref _ (.agg ((us.drop off).take m).toArray) b (o + off) (.agg _ _ (by simp only [List.length_take, List.length_drop]; omega) (fun k c u hk hk2 => ?_) (fun u hu => h1 u (List.mem_of_mem_drop (List.mem_of_mem_take hu)))) fun j c hj => ?_
      · rw [List.getElem?_take] at hk hk2
        split at hk
        · rename_i hkm
          rw [if_pos hkm, List.getElem?_drop] at hk2
          rw [List.getElem?_drop] at hk
          exact hr.2 _ _ _ hk hk2
        · cases hk
      · have hj' : ((us.drop off).take m)[j]? = some c := by simpa [Value.cells] using hj
        rw [List.getElem?_take] at hj'
        split at hj'
        · rw [List.getElem?_drop] at hj'
          have := hm _ _ hj'
          rwa [← Nat.add_assoc] at this
        · cases hj'
    · cases hc
end
end Go.Proofs.YtgehlcgjchfibaaGreatDoor.F
namespace Go.Proofs.YtgehlcgjchfibaaGreatDoor.F
open Go Go.RowKit
section
variable {P : Program} {w : World} {C : Nat → Nat → Prop} {μ : Nat → Value}
theorem sl_ref {sz : Nat} {xs : List AV} {u : Value} (h : TRel μ C w (.sl sz xs) u) {n : Int} (h0 : 0 ≤ n) (h1 : n < xs.length) {t e : TypeId} (ht : P.underlying t = some (.slice e)) (hs : P.cellsOf e = sz) (he : (P.info? e).isSome = true) (k : IntKind) :
    ∃ v, (Instr.indexAt t u (.int k n)).run P w = .ok v w ∧ Rel C w (.ref (xs.getD n.toNat .top)) v := by
  obtain ⟨A, cap, rfl, hA, hne⟩ := h.sl_inv
  obtain ⟨b, off, us, rfl, hc, hr, hsz, hw⟩ := hne (by intro e; subst e; simp at h1; omega)
  obtain ⟨i, hi⟩ := Option.isSome_iff_exists.1 he
  have hlt : n.toNat < xs.length := by omega
  refine ⟨.pointer (some ⟨b, off + n.toNat * sz, none⟩), ?_, ?_⟩
  · have hcond : 0 ≤ n ∧ n < (xs.length : Int) := ⟨h0, h1⟩
    simp only [Instr.indexAt, asIntOf, Sem.run_bind, Sem.run_pure, Result.andThen_ok, run_underlying ht, hcond, and_self, if_true, run_sizeOf w hi, Addr.add_mid, hs]
  · have hx : xs.getD n.toNat .top = xs[n.toNat] := by simp [List.getD_eq_getElem?_getD, List.getElem?_eq_getElem hlt]
    rw [hx]
    refine .ref _ (us n.toNat) b _ (hr _ _ (List.getElem?_eq_getElem hlt)) fun j c hj => ?_
    have := hw n.toNat j c hlt hj
    rwa [← Nat.add_assoc] at this
theorem sl_cut {sz : Nat} {xs : List AV} {u : Value} (h : TRel μ C w (.sl sz xs) u) {l r : Nat} (h1 : l ≤ r) (h2 : r ≤ xs.length) {t e : TypeId} (ht : P.underlying t = some (.slice e)) (hs : P.cellsOf e = sz) (he : (P.info? e).isSome = true)
    {lo hi : Option Value} (hlo : lo = none ∧ l = 0 ∨ ∃ k, lo = some (.int k (l : Int))) (hhi : hi = none ∧ r = xs.length ∨ ∃ k, hi = some (.int k (r : Int))) :
    ∃ v, (Instr.sliceAt t u lo hi none).run P w = .ok v w ∧ Rel C w (.sl sz ((xs.drop l).take (r - l))) v := by
  obtain ⟨A, cap, rfl, hA, hne⟩ := h.sl_inv
  obtain ⟨i, hi'⟩ := Option.isSome_iff_exists.1 he
  have hcap : xs.length ≤ cap ∨ xs = [] := by
    by_cases e : xs = []
    · exact .inr e
    · obtain ⟨_, _, _, _, hc, _⟩ := hne e; exact .inl hc
  have hrc : r ≤ cap := by rcases hcap with h | h; omega; subst h; simp at h2; omega
  refine ⟨.slice (if cap = l then A else A.map (·.add (l * sz))) (r - l) (cap - l), ?_, ?_⟩
  · have hb : ∀ (W : World), (Instr.sliceBounds true xs.length cap lo hi none).run P W = .ok (l, r, cap) W := by
      intro W
      have e1 : (0 ≤ (r : Int) ∧ (r : Int) ≤ (cap : Int)) := ⟨by omega, by omega⟩
      have e2 : (0 ≤ (l : Int) ∧ (l : Int) ≤ (r : Int)) := ⟨by omega, by omega⟩
      rcases hlo with ⟨rfl, rfl⟩ | ⟨k, rfl⟩ <;> rcases hhi with ⟨rfl, hr'⟩ | ⟨k', rfl⟩
      · simp [Instr.sliceBounds, hr']
      · simp only [Instr.sliceBounds, Instr.sliceBound, asIntOf, Sem.run_bind, Sem.run_pure, Result.andThen_ok, if_pos e1, Int.toNat_natCast, Option.isSome_none, Bool.false_eq_true, if_false]
      · subst hr'; simp only [Instr.sliceBounds, Instr.sliceBound, asIntOf, Sem.run_bind, Sem.run_pure, Result.andThen_ok, if_pos e2, Int.toNat_natCast, Option.isSome_none, Bool.false_eq_true, if_false]
      · simp only [Instr.sliceBounds, Instr.sliceBound, asIntOf, Sem.run_bind, Sem.run_pure, Result.andThen_ok, if_pos e1, if_pos e2, Int.toNat_natCast, Option.isSome_none, Bool.false_eq_true, if_false]
    simp only [Instr.sliceAt, Instr.slice, Sem.run_bind, run_underlying ht, Result.andThen_ok, hb, run_sizeOf w hi', hs, Sem.run_pure]
  · by_cases hz : r - l = 0
    · rw [hz, List.take_zero]
      refine .sl0 _ _ _ fun a ha => ?_
      split at ha
      · exact hA a ha
      · obtain ⟨a', ha', rfl⟩ := Option.map_eq_some_iff.1 ha
        have := hA a' ha'
        unfold Addr.add
        split
        · exact this
        · rfl
    · obtain ⟨b, off, us, rfl, hc, hr, hsz, hw⟩ := hne (by intro e; subst e; simp at h2; omega)
      rw [if_neg (by omega)]
      simp only [Option.map_some, Addr.add_mid]
      have hlen : ((xs.drop l).take (r - l)).length = r - l := by rw [List.length_take, List.length_drop]; omega
      have := Rel.sl (C := C) (w := w) sz ((xs.drop l).take (r - l)) b (off + l * sz) (cap - l) (fun j => us (l + j)) (by rw [hlen]; omega) (fun j x hx => ?_) (fun j hj => hsz _ (by rw [hlen] at hj; omega)) (fun j q c hj hq => ?_)
      · rwa [hlen] at this
      · rw [List.getElem?_take] at hx
        split at hx
        · rw [List.getElem?_drop] at hx; exact hr _ _ hx
        · cases hx
      · rw [hlen] at hj
        have := hw (l + j) q c (by omega) hq
        rwa [show off + ((l + j) * sz + q) = off + l * sz + (j * sz + q) by rw [Nat.add_mul]; omega] at this
theorem strOfNums_bytes (bs : List UInt8) : ∀ xs : List Int, xs = bs.map (fun b => (b.toNat : Int)) → strOfNums xs = ⟨bs.toArray⟩ := by
  intro xs h
  subst h
  simp [strOfNums, Function.comp_def]
theorem bytes_str {xs : List AV} {u : Value} (h : TRel μ C w (.sl 1 xs) u) (hb : ∀ x ∈ xs, isByte x) {src dst e : TypeId} (hs : P.underlying src = some (.slice e)) (he : P.underlying e = some (.int .u8)) (hd : P.underlying dst = some .string) :
    (convert src dst u).run P w = .ok (.string ⟨(xs.map byteOf).toArray⟩) w := by
  obtain ⟨A, cap, rfl, hA, hne⟩ := h.sl_inv
  have hbyte : ∀ x ∈ xs, x = .int .u8 ((byteOf x).toNat : Int) := by
    intro x hx
    have := hb x hx
    unfold isByte at this
    split at this
    · rename_i n
      simp only [byteOf]
      congr 1
      simp [UInt8.toNat_ofNat']
      omega
    · exact this.elim
  by_cases hx : xs = []
  · subst hx
    cases A with
    | none => rw [run_convert_bytes_nil w src e hs he _ _ dst hd]; rfl
    | some ad =>
      have hr : (convert src dst (.slice (some ad) 0 cap)).run P w = .ok (.string ByteArray.empty) w := by
        rw [run_convert_bytes_string w src dst e _ 0 cap hs he hd]
        simp [Conv.bytesToString, loadCells, loadCellsFrom]
      simp only [List.length_nil, hr]; rfl
  · obtain ⟨b, off, us, rfl, hc, hr, hsz, hw⟩ := hne hx
    rw [run_convert_bytes_arg w src e hs he b off xs.length cap (xs.map fun x => ((byteOf x).toNat : Int)) (by simp) (fun i hi => ?_) dst hd, strOfNums_bytes (xs.map byteOf) _ (by simp)]
    have hx := List.getElem?_eq_getElem hi
    have h1 := hr i _ hx
    rw [hbyte _ (List.getElem_mem hi)] at h1
    have h2 : us i = .int .u8 ((byteOf xs[i]).toNat : Int) := (TRel.of_rel (μ := μ) h1).int_inv
    have h3 := (hw i 0 (us i) hi (by rw [h2]; rfl)).2
    simp only [Nat.mul_one, Nat.add_zero] at h3
    rw [h3, h2]
    simp [List.getD_eq_getElem?_getD, hx]
theorem run_index_str {s : List UInt8} {t : TypeId} (ht : P.underlying t = some .string) {n : Int} (h0 : 0 ≤ n) (h1 : n < s.length) (k : IntKind) :
    (Instr.index t (.string ⟨s.toArray⟩) (.int k n)).run P w = .ok (.int .u8 (s.getD n.toNat 0).toNat) w := by
  have hlt : n.toNat < s.length := by omega
  have hg : (⟨s.toArray⟩ : ByteArray)[n.toNat]? = some s[n.toNat] := by
    simp only [getElem?, decidableGetElem?]
    rw [dif_pos (show n.toNat < (⟨s.toArray⟩ : ByteArray).size by simpa [ByteArray.size] using hlt)]
    rfl
  simp only [Instr.index, asIntOf, Sem.run_bind, Sem.run_pure, Result.andThen_ok, run_underlying ht, if_pos h0, hg]
  simp [List.getD_eq_getElem?_getD, List.getElem?_eq_getElem hlt]
theorem extract_bytes (s : List UInt8) (l r : Nat) : (⟨s.toArray⟩ : ByteArray).extract l r = ⟨((s.drop l).take (r - l)).toArray⟩ := by
  apply ByteArray.ext
  rw [ByteArray.data_extract]
  apply Array.ext'
  simp [List.extract_eq_take_drop]
theorem run_slice_str {s : List UInt8} {t : TypeId} (ht : P.underlying t = some .string) {l r : Nat} (h1 : l ≤ r) (h2 : r ≤ s.length)
    {lo hi : Option Value} (hlo : lo = none ∧ l = 0 ∨ ∃ k, lo = some (.int k (l : Int))) (hhi : hi = none ∧ r = s.length ∨ ∃ k, hi = some (.int k (r : Int))) :
    (Instr.sliceAt t (.string ⟨s.toArray⟩) lo hi none).run P w = .ok (.string ⟨((s.drop l).take (r - l)).toArray⟩) w := by
  have hsz : (⟨s.toArray⟩ : ByteArray).size = s.length := by simp [ByteArray.size]
  have hb : ∀ (W : World), (Instr.sliceBounds false s.length s.length lo hi none).run P W = .ok (l, r, s.length) W := by
    intro W
    have e1 : (0 ≤ (r : Int) ∧ (r : Int) ≤ (s.length : Int)) := ⟨by omega, by omega⟩
    have e2 : (0 ≤ (l : Int) ∧ (l : Int) ≤ (r : Int)) := ⟨by omega, by omega⟩
    rcases hlo with ⟨rfl, rfl⟩ | ⟨k, rfl⟩ <;> rcases hhi with ⟨rfl, hr'⟩ | ⟨k', rfl⟩
    · simp [Instr.sliceBounds, hr']
    · simp only [Instr.sliceBounds, Instr.sliceBound, asIntOf, Sem.run_bind, Sem.run_pure, Result.andThen_ok, if_pos e1, Int.toNat_natCast, Option.isSome_none, Bool.false_eq_true, if_false]
    · subst hr'; simp only [Instr.sliceBounds, Instr.sliceBound, asIntOf, Sem.run_bind, Sem.run_pure, Result.andThen_ok, if_pos e2, Int.toNat_natCast, Option.isSome_none, Bool.false_eq_true, if_false]
    · simp only [Instr.sliceBounds, Instr.sliceBound, asIntOf, Sem.run_bind, Sem.run_pure, Result.andThen_ok, if_pos e1, if_pos e2, Int.toNat_natCast, Option.isSome_none, Bool.false_eq_true, if_false]
  simp only [Instr.sliceAt, Instr.slice, Sem.run_bind, run_underlying ht, Result.andThen_ok, Option.isSome_none, Bool.false_eq_true, if_false, Sem.run_pure, hsz, hb, extract_bytes]
theorem eqCells_len : ∀ {xs ys : List AV} {r : Bool}, eqCells xs ys = some r → xs.length = ys.length
  | [], [], _, _ => rfl
  | [], _ :: _, _, h => by simp [eqCells] at h
  | _ :: _, [], _, h => by simp [eqCells] at h
  | x :: xs, y :: ys, r, h => by
    simp only [eqCells] at h
    split at h
    · rename_i a b _ h2
      simp [eqCells_len h2]
    · cases h
theorem toList_mk (s : List UInt8) : (⟨s.toArray⟩ : ByteArray).toList = s := by rw [ByteArray.toList_eq]
theorem run_eqCell (w : World) {d : Nat} {t : TypeId} {x y : AV} {u v : Value} {r : Bool} (ht : tkind P t = some (ckind x)) (hx : Rel C w x u) (hy : Rel C w y v) (h : eqCell x y = some r) :
    (Op.equalIn (d + 1) t u v).run P w = .ok r w := by
  unfold tkind at ht
  unfold eqCell at h
  split at h
  · rename_i k n k' n'
    split at h
    · rename_i e
      subst e
      injection h with h
      subst h
      obtain rfl := (TRel.of_rel (μ := fun _ => undef) hx).int_inv
      obtain rfl := (TRel.of_rel (μ := fun _ => undef) hy).int_inv
      split at ht <;> first | (rename_i he; simp [Op.equalIn, run_underlying he]; done) | (simp [ckind] at ht)
    · cases h
  · injection h with h
    subst h
    obtain rfl := (TRel.of_rel (μ := fun _ => undef) hx).bool_inv
    obtain rfl := (TRel.of_rel (μ := fun _ => undef) hy).bool_inv
    split at ht <;> first | (rename_i he; simp [Op.equalIn, run_underlying he]; done) | (simp [ckind] at ht)
  · injection h with h
    subst h
    obtain rfl := (TRel.of_rel (μ := fun _ => undef) hx).str_inv
    obtain rfl := (TRel.of_rel (μ := fun _ => undef) hy).str_inv
    split at ht <;> first | (rename_i he; simp [Op.equalIn, run_underlying he, beq_toListBytes, toList_mk]; done) | (simp [ckind] at ht)
  · cases h
theorem run_eqCells (w : World) {d : Nat} {us vs : List Value} {XS YS : List AV} (hX : RelL C w XS us) (hY : RelL C w YS vs) : ∀ (fs : List Field) (k : Nat) (xs ys : List AV) (r : Bool), eqFs P k fs = some (xs.map ckind) → XS.drop k = xs → YS.drop k = ys → eqCells xs ys = some r →
    (Op.eqFields (d + 1) us.toArray vs.toArray fs).run P w = .ok r w
  | [], k, xs, ys, r, hf, hx, hy, h => by
    simp only [eqFs, Option.some.injEq] at hf
    have : xs = [] := by cases xs with | nil => rfl | cons x xs => simp at hf
    subst this
    have := eqCells_len h
    have : ys = [] := List.eq_nil_of_length_eq_zero (by simpa using this.symm)
    subst this
    simp [eqCells] at h
    subst h
    simp [Op.eqFields]
  | f :: fs, k, xs, ys, r, hf, hx, hy, h => by
    simp only [eqFs] at hf
    split at hf
    · rename_i q qs hq hqs
      split at hf
      · rename_i hc
        simp only [Bool.and_eq_true, bne_iff_ne, ne_eq, beq_iff_eq] at hc
        injection hf with hf
        cases xs with
        | nil => simp at hf
        | cons x xs =>
          cases ys with
          | nil => simp [eqCells] at h
          | cons y ys =>
            simp only [List.map_cons, List.cons.injEq] at hf
            simp only [eqCells] at h
            split at h
            · rename_i r1 r2 h1 h2
              injection h with h
              subst h
              have hxk : XS[k]? = some x := by have := congrArg (·[0]?) hx; simpa [List.getElem?_drop] using this
              have hyk : YS[k]? = some y := by have := congrArg (·[0]?) hy; simpa [List.getElem?_drop] using this
              have hlu : k < us.length := by rw [← hX.1]; exact (List.getElem?_eq_some_iff.1 hxk).1
              have hlv : k < vs.length := by rw [← hY.1]; exact (List.getElem?_eq_some_iff.1 hyk).1
              have hu := List.getElem?_eq_getElem hlu
              have hv := List.getElem?_eq_getElem hlv
              have hxs : XS.drop (k + 1) = xs := by have := congrArg (·.drop 1) hx; simpa [List.drop_drop] using this
              have hys : YS.drop (k + 1) = ys := by have := congrArg (·.drop 1) hy; simpa [List.drop_drop] using this
              have ih := run_eqCells w (d := d) hX hY fs (k + 1) xs ys r2 (by rw [hqs, hf.2]) hxs hys h2
              have he := run_eqCell w (P := P) (d := d) (t := f.type) (by rw [hq, hf.1]) (hX.2 k x _ hxk hu) (hY.2 k y _ hyk hv) h1
              have hpart : ∀ (zs : List Value) (z : Value), zs[k]? = some z → (part f.type zs.toArray f.offset).run P w = .ok z w := by
                intro zs z hz
                unfold tkind at hq
                rw [hc.2]
                split at hq <;> first | (rename_i hu2; simp only [part, Sem.run_bind, run_isAgg_no hu2 rfl, Result.andThen_ok, Bool.false_eq_true, if_false, List.getElem?_toArray, hz, Sem.run_pure]) | cases hq
              rw [Op.eqFields, if_pos hc.1]
              simp only [Sem.run_bind, hpart us _ hu, hpart vs _ hv, he, Result.andThen_ok]
              cases r1
              · simp
              · simpa using ih
            · cases h
      · cases hf
    · cases hf
theorem ckind_ne {xs : List AV} : xs.map ckind ≠ [9] := by
  intro h
  cases xs with
  | nil => simp at h
  | cons x xs =>
    simp only [List.map_cons, List.cons.injEq] at h
    cases x <;> simp [ckind] at h
theorem run_eqBool (w : World) {t : TypeId} (ht : eqOf P t = some [9]) (x y : Bool) : (Op.equal t (.bool x) (.bool y)).run P w = .ok (x == y) w := by
  unfold eqOf at ht
  split at ht
  · rename_i fs hfs
    split at ht
    · have : ∀ (fs : List Field) k, eqFs P k fs ≠ some [9] := by
        intro fs k h
        cases fs with
        | nil => simp [eqFs] at h
        | cons f fs =>
          simp only [eqFs] at h
          split at h
          · rename_i q qs hq _
            split at h
            · injection h with h
              simp only [List.cons.injEq] at h
              unfold tkind at hq
              split at hq <;> first | (injection hq with hq; omega) | cases hq
            · cases h
          · cases h
      exact absurd ht (this _ _)
    · cases ht
  · rename_i hb
    have : ∀ d, (Op.equalIn (d + 1) t (.bool x) (.bool y)).run P w = .ok (x == y) w := by intro d; simp [Op.equalIn, run_underlying hb]
    exact this 9999
  · cases ht
theorem run_eqAgg (w : World) {t : TypeId} {xs ys : List AV} {u v : Value} {r : Bool} (ht : eqOf P t = some (xs.map ckind)) (hx : TRel μ C w (.agg xs) u) (hy : TRel μ C w (.agg ys) v) (h : eqCells xs ys = some r) :
    (Op.equal t u v).run P w = .ok r w ∧ ∀ op x y, (eqGuard op t x y u v).run P w = .ok () w := by
  obtain ⟨us, rfl, hu, _⟩ := hx.agg_inv
  obtain ⟨vs, rfl, hv, _⟩ := hy.agg_inv
  unfold eqOf at ht
  split at ht
  · rename_i fs hfs
    split at ht
    · rename_i hc
      simp only [Bool.and_eq_true, Bool.not_eq_true'] at hc
      have hf : P.fieldsOf t = fs := by simp [Program.fieldsOf, hfs]
      refine ⟨?_, fun op x y => ?_⟩
      · simp only [Op.equal, Op.maxDepth]
        rw [run_equalIn_struct (P := P) w 9999 t _ _ (by rw [hf]; exact hfs) hc.1, hf]
        exact run_eqCells w hu hv fs.toList 0 xs ys r ht rfl rfl h
      · unfold eqGuard
        cases op <;> simp [hc.2]
    · cases ht
  · injection ht with ht
    exact absurd ht.symm ckind_ne
  · cases ht
end
end Go.Proofs.YtgehlcgjchfibaaGreatDoor.F
namespace Go.Proofs.YtgehlcgjchfibaaGreatDoor.F
open Go Go.RowKit
section
variable {X : Env} {base : Nat → Prop} {μ : Nat → Value} {C : Nat → Nat → Prop} {w : World} {s : St} {a : Act} {rd : Bool}
theorem optM_inv {f : Operand → Option Opd} {x : Option Operand} {y : Option Opd} (h : optM f x = some y) : x = none ∧ y = none ∨ ∃ x' y', x = some x' ∧ y = some y' ∧ f x' = some y' := by
  cases x with
  | none => simp [optM] at h; exact .inl ⟨rfl, h.symm⟩
  | some x =>
    simp only [optM, Option.map_eq_some_iff] at h
    obtain ⟨y', h1, h2⟩ := h
    exact .inr ⟨x, y', rfl, h2.symm, h1⟩
theorem lo_inv {x : Option Operand} {y : Option Opd} {n : Int} (h : optM compOpd x = some y) (hk : Know X base μ C w s a rd y.toList) (hl : loV X.G s y = some n) (h0 : 0 ≤ n) :
    x.map a.eval = none ∧ n.toNat = 0 ∨ ∃ k, x.map a.eval = some (.int k (n.toNat : Int)) := by
  rcases optM_inv h with ⟨rfl, rfl⟩ | ⟨x', y', rfl, rfl, hxy⟩
  · simp only [loV, Option.some.injEq] at hl; subst hl; exact .inl ⟨rfl, rfl⟩
  · simp only [loV] at hl
    split at hl
    · rename_i k m hv
      injection hl with hl; subst hl
      have := (hk y' (by simp) x' hxy _ hv).1.int_inv
      exact .inr ⟨k, by rw [Option.map_some, this, Int.toNat_of_nonneg h0]⟩
    · cases hl
theorem hi_inv {x : Option Operand} {y : Option Opd} {n : Int} {len : Nat} (h : optM compOpd x = some y) (hk : Know X base μ C w s a rd y.toList) (hl : hiV X.G s len y = some n) (h0 : 0 ≤ n) :
    x.map a.eval = none ∧ n.toNat = len ∨ ∃ k, x.map a.eval = some (.int k (n.toNat : Int)) := by
  rcases optM_inv h with ⟨rfl, rfl⟩ | ⟨x', y', rfl, rfl, hxy⟩
  · simp only [hiV, Option.some.injEq] at hl; subst hl; exact .inl ⟨rfl, by simp⟩
  · simp only [hiV] at hl
    split at hl
    · rename_i k m hv
      injection hl with hl; subst hl
      have := (hk y' (by simp) x' hxy _ hv).1.int_inv
      exact .inr ⟨k, by rw [Option.map_some, this, Int.toNat_of_nonneg h0]⟩
    · cases hl
theorem Know.sub {ys zs : List Opd} (h : Know X base μ C w s a rd ys) (hz : ∀ z ∈ zs, z ∈ ys) : Know X base μ C w s a rd zs := fun y hy => h y (hz y hy)
theorem valP {y : Opd} {v : AV} (h : val X.G s y = some v) : opd X.G s y = some v ∧ v.vok = true := by
  unfold val at h
  split at h
  · split at h
    · rename_i e hp; injection h with h; subst h; exact ⟨e, hp⟩
    · cases h
  · cases h
theorem bin_sound {b : BinOp} {t : TypeId} {xo yo : Operand} {x y : AV} {p : Prop} {v : AV} {u1 u2 : Value} (h1 : TRel μ C w x u1) (h2 : TRel μ C w y u2) (hp : binV b (eqOf X.P t) x y = some (p, v)) (h : p) :
    ∃ u, (do eqGuard b t xo yo u1 u2; binOp b t u1 u2).run X.P w = .ok u w ∧ TRel μ C w v u := by
  unfold binV at hp
  split at hp
  · rename_i k n k' m
    split at hp
    · rename_i e
      subst e
      obtain rfl := h1.int_inv
      obtain rfl := h2.int_inv
      have hg : (eqGuard b t xo yo (.int k n) (.int k m)).run X.P w = .ok () w := by unfold eqGuard; cases b <;> simp
      rw [Sem.run_bind, hg, Result.andThen_ok]
      split at hp <;> first | (cases hp; done) | (injection hp with hp; simp only [Prod.mk.injEq] at hp; obtain ⟨rfl, rfl⟩ := hp)
      · exact ⟨_, by simp [binOp, Op.intArith], .int _ _⟩
      · exact ⟨_, by simp [binOp, Op.intArith], .int _ _⟩
      · exact ⟨_, by simp [binOp, Op.intArith], .int _ _⟩
      · exact ⟨_, by simp [binOp, Op.intDiv, h], .int _ _⟩
      · exact ⟨_, by simp [binOp, Op.intDiv, h], .int _ _⟩
      all_goals exact ⟨_, by simp [binOp, Op.intCmp], .bool _⟩
    · cases hp
  · obtain rfl := h1.bool_inv
    obtain rfl := h2.bool_inv
    have hg : ∀ x y, (eqGuard b t xo yo (.bool x) (.bool y)).run X.P w = .ok () w := by intro x y; unfold eqGuard; cases b <;> simp
    rw [Sem.run_bind, hg, Result.andThen_ok]
    split at hp <;> first | (cases hp; done) | (injection hp with hp; simp only [Prod.mk.injEq] at hp; obtain ⟨rfl, rfl⟩ := hp)
    · exact ⟨_, by simp only [binOp, Sem.run_bind, run_eqBool w h, Result.andThen_ok, Sem.run_pure], .bool _⟩
    · exact ⟨_, by simp only [binOp, Sem.run_bind, run_eqBool w h, Result.andThen_ok, Sem.run_pure]; rfl, .bool _⟩
  · obtain rfl := h1.str_inv
    obtain rfl := h2.str_inv
    have hg : ∀ x y, (eqGuard b t xo yo (.string x) (.string y)).run X.P w = .ok () w := by intro x y; unfold eqGuard; cases b <;> simp
    rw [Sem.run_bind, hg, Result.andThen_ok]
    split at hp <;> first | (cases hp; done) | (injection hp with hp; simp only [Prod.mk.injEq] at hp; obtain ⟨rfl, rfl⟩ := hp)
    · rename_i x y _
      refine ⟨.string ⟨(x ++ y).toArray⟩, ?_, .str _⟩
      have hsz : ∀ z : List UInt8, (⟨z.toArray⟩ : ByteArray).size = z.length := by intro z; simp [ByteArray.size]
      have hle : ¬ (((⟨x.toArray⟩ : ByteArray).size + (⟨y.toArray⟩ : ByteArray).size : Nat) : Int) > IntKind.i64.max := by
        rw [hsz, hsz]
        simp [IntKind.max, IntKind.signed, IntKind.bits]
        omega
      have happ : (⟨x.toArray⟩ : ByteArray) ++ ⟨y.toArray⟩ = ⟨(x ++ y).toArray⟩ := by
        apply ByteArray.ext
        rw [ByteArray.data_append]
        simp
      simp only [binOp, Op.stringOp, if_neg hle, happ, Sem.run_pure]
    · exact ⟨_, by simp [binOp, Op.stringOp, toList_mk], .bool _⟩
    · exact ⟨_, by simp [binOp, Op.stringOp, toList_mk, bne], .bool _⟩
    · exact ⟨_, by simp [binOp, Op.stringOp, toList_mk], .bool _⟩
  · rename_i xs ys
    split at hp
    · rename_i r hr
      injection hp with hp
      simp only [Prod.mk.injEq] at hp
      obtain ⟨rfl, rfl⟩ := hp
      obtain ⟨he, hg⟩ := run_eqAgg w h h1 h2 hr
      obtain ⟨us, rfl, _, _⟩ := h1.agg_inv
      obtain ⟨vs, rfl, _, _⟩ := h2.agg_inv
      rw [Sem.run_bind, hg, Result.andThen_ok]
      exact ⟨_, by simp only [binOp, Sem.run_bind, he, Result.andThen_ok, Sem.run_pure], .bool _⟩
    · rename_i r hr
      injection hp with hp
      simp only [Prod.mk.injEq] at hp
      obtain ⟨rfl, rfl⟩ := hp
      obtain ⟨he, hg⟩ := run_eqAgg w h h1 h2 hr
      obtain ⟨us, rfl, _, _⟩ := h1.agg_inv
      obtain ⟨vs, rfl, _, _⟩ := h2.agg_inv
      rw [Sem.run_bind, hg, Result.andThen_ok]
      exact ⟨_, by simp only [binOp, Sem.run_bind, he, Result.andThen_ok, Sem.run_pure], .bool _⟩
    · cases hp
  · cases hp
theorem compOpd_map {x : Operand} {f : Opd → IOp} {op : IOp} (h : (compOpd x).map f = some op) : ∃ y, compOpd x = some y ∧ op = f y := by
  simp only [Option.map_eq_some_iff] at h
  obtain ⟨y, h1, h2⟩ := h
  exact ⟨y, h1, h2.symm⟩
theorem fold_splice (off : Nat) (cs us : List Value) (h : off + cs.length ≤ us.length) :
    (cs.toArray.zipIdx.foldl (fun (a : Array Value) (c : Value × Nat) => a.setIfInBounds (off + c.2) c.1) us.toArray) = (us.take off ++ cs ++ us.drop (off + cs.length)).toArray := by
  rw [← Array.foldl_toList, Array.toList_zipIdx]
  obtain ⟨h1, h2⟩ := Great.foldl_set off cs 0 us.toArray
  apply Array.ext_getElem?
  intro k
  have := h2 k
  simp only [Nat.add_zero] at this
  simp only [List.toList_toArray] at this ⊢
  rw [this]
  simp only [List.size_toArray, List.getElem?_toArray]
  have hl : (us.take off).length = off := by rw [List.length_take]; omega
  by_cases hk : k < off
  · rw [if_neg (by omega), List.append_assoc, List.getElem?_append_left (by omega), List.getElem?_take, if_pos hk]
  · by_cases hk2 : k < off + cs.length
    · rw [if_pos (by omega), List.append_assoc, List.getElem?_append_right (by omega), hl, List.getElem?_append_left (by omega)]
    · rw [if_neg (by omega), List.getElem?_append_right (by rw [List.length_append, hl]; omega), List.length_append, hl, List.getElem?_drop]
      congr 1
      omega
theorem RelL.take {xs : List AV} {us : List Value} (h : RelL C w xs us) (n : Nat) : RelL C w (xs.take n) (us.take n) := by
  refine ⟨by simp [h.1], fun i x u hx hu => ?_⟩
  rw [List.getElem?_take] at hx hu
  split at hx
  · rename_i hi; rw [if_pos hi] at hu; exact h.2 i x u hx hu
  · cases hx
theorem RelL.drop {xs : List AV} {us : List Value} (h : RelL C w xs us) (n : Nat) : RelL C w (xs.drop n) (us.drop n) := by
  refine ⟨by simp [h.1], fun i x u hx hu => ?_⟩
  rw [List.getElem?_drop] at hx hu
  exact h.2 _ x u hx hu
theorem RelL.append {xs ys : List AV} {us vs : List Value} (h : RelL C w xs us) (k : RelL C w ys vs) : RelL C w (xs ++ ys) (us ++ vs) := by
  refine ⟨by simp [h.1, k.1], fun i x u hx hu => ?_⟩
  by_cases hi : i < xs.length
  · rw [List.getElem?_append_left hi] at hx
    rw [List.getElem?_append_left (by rw [← h.1]; exact hi)] at hu
    exact h.2 i x u hx hu
  · rw [List.getElem?_append_right (by omega)] at hx
    rw [List.getElem?_append_right (by rw [← h.1]; omega), ← h.1] at hu
    exact k.2 _ x u hx hu
theorem RelL.splice {xs vs : List AV} {us cs : List Value} (h : RelL C w xs us) (hv : RelL C w vs cs) (off : Nat) : RelL C w (splice xs off vs) (us.take off ++ cs ++ us.drop (off + cs.length)) := by
  rw [F.splice, hv.1]
  exact ((h.take off).append hv).append (h.drop _)
theorem Rel.vok {v : AV} {u : Value} (h : Rel C w v u) (hv : v.vok = true) : ∃ cs : List Value, u.cells = cs.toArray ∧ RelL C w (avCells v) cs ∧ ∀ c ∈ cs, c.oneCell' = true := by
  cases h with
  | agg xs us hl h h1 => exact ⟨us, rfl, ⟨hl, h⟩, h1⟩
  | tup => simp [AV.vok] at hv
  | top => simp [AV.vok] at hv
  | int k n => exact ⟨[_], rfl, RelL.cons (.int k n) (RelL.nil _ _), by simp [Value.oneCell']⟩
  | bool b => exact ⟨[_], rfl, RelL.cons (.bool b) (RelL.nil _ _), by simp [Value.oneCell']⟩
  | str t => exact ⟨[_], rfl, RelL.cons (.str t) (RelL.nil _ _), by simp [Value.oneCell']⟩
  | fn f => exact ⟨[_], rfl, RelL.cons (.fn f) (RelL.nil _ _), by simp [Value.oneCell']⟩
  | nil => exact ⟨[_], rfl, RelL.cons .nil (RelL.nil _ _), by simp [Value.oneCell']⟩
  | sl0 q A cap hA => exact ⟨[_], rfl, RelL.cons (.sl0 q A cap hA) (RelL.nil _ _), by simp [Value.oneCell']⟩
  | sl q xs b off cap us hc h hs hw => exact ⟨[_], rfl, RelL.cons (.sl q xs b off cap us hc h hs hw) (RelL.nil _ _), by simp [Value.oneCell']⟩
  | ref x u b off h hw => exact ⟨[_], rfl, RelL.cons (.ref x u b off h hw) (RelL.nil _ _), by simp [Value.oneCell']⟩
theorem AV.vok_plain {v : AV} (h : v.vok = true) : v.plain = true := by cases v <;> first | rfl | exact h
theorem fill_sound {pl : List (Nat × Nat)} : ∀ (ps : List (Nat × Operand)) (qs : List (Nat × Nat × Opd)) (z r : List AV) (us : List Value), partM pl ps = some qs → Know X base μ C w s a rd (qs.map fun p => p.2.2) → RelL C w z us → (∀ u ∈ us, u.oneCell' = true) → fillAV X.G s z qs = some r →
    ∃ us', Instr.fill (pl.toArray[·]?) us.toArray (ps.map fun p => (p.1, a.eval p.2)) = some (List.toArray us') ∧ RelL C w r us' ∧ ∀ u ∈ us', u.oneCell' = true
  | [], qs, z, r, us, hq, hk, hz, h1, hr => by
    simp only [partM, Option.some.injEq] at hq; subst hq
    simp only [fillAV, Option.some.injEq] at hr; subst hr
    exact ⟨us, rfl, hz, h1⟩
  | (i, x) :: ps, qs, z, r, us, hq, hk, hz, h1, hr => by
    simp only [partM] at hq
    split at hq
    · rename_i f y ys hf hy hys
      injection hq with hq; subst hq
      simp only [fillAV] at hr
      split at hr
      · rename_i v hv
        split at hr
        · rename_i hc
          obtain ⟨ho, hp⟩ := valP hv
          have hrel := ((hk y (by simp) x hy v ho).1).rel (AV.vok_plain hp)
          obtain ⟨cs, hcs, hcr, hc1⟩ := hrel.vok hp
          have hlen : cs.length = f.2 := by rw [← hcr.1]; exact hc.1
          have hul : f.1 + cs.length ≤ us.length := by rw [hlen, ← hz.1]; exact hc.2
          obtain ⟨us', h2, h3, h4⟩ := fill_sound ps ys _ r (us.take f.1 ++ cs ++ us.drop (f.1 + cs.length)) hys (hk.sub (fun z hz => by simp only [List.map_cons]; exact List.mem_cons_of_mem _ hz)) (hz.splice hcr f.1)
            (fun u hu => by
              simp only [List.append_assoc, List.mem_append] at hu
              rcases hu with hu | hu | hu
              · exact h1 u (List.mem_of_mem_take hu)
              · exact hc1 u hu
              · exact h1 u (List.mem_of_mem_drop hu)) hr
          refine ⟨us', ?_, h3, h4⟩
          rw [List.map_cons, Instr.fill]
          have hpl : pl.toArray[i]? = some (f.1, f.2) := by simpa using hf
          simp only [hpl, hcs]
          rw [if_neg, fold_splice _ _ _ hul]
          · exact h2
          · simp only [List.size_toArray, Bool.or_eq_true, decide_eq_true_eq, ne_eq]
            omega
        · cases hr
      · cases hr
    · cases hq
theorem okCell_rel {x : AV} {u : Value} (h : okCell x u = true) : Rel C w x u ∧ u.oneCell' = true := by
  unfold okCell at h
  split at h
  · simp only [Bool.and_eq_true, beq_iff_eq] at h; obtain ⟨rfl, rfl⟩ := h; exact ⟨.int _ _, rfl⟩
  · simp only [beq_iff_eq] at h; subst h; exact ⟨.bool _, rfl⟩
  · simp only [beq_iff_eq] at h; subst h; exact ⟨.str _, rfl⟩
  · exact ⟨.sl0 _ _ _ (by simp), rfl⟩
  · exact ⟨.top _, h⟩
  · cases h
theorem okCells_rel : ∀ {xs : List AV} {us : List Value}, okCells xs us = true → RelL C w xs us ∧ ∀ u ∈ us, u.oneCell' = true
  | [], [], _ => ⟨RelL.nil _ _, by simp⟩
  | [], _ :: _, h => by simp [okCells] at h
  | _ :: _, [], h => by simp [okCells] at h
  | x :: xs, u :: us, h => by
    simp only [okCells, Bool.and_eq_true] at h
    obtain ⟨h1, h2⟩ := okCells_rel h.2
    obtain ⟨h3, h4⟩ := okCell_rel (C := C) (w := w) h.1
    exact ⟨RelL.cons h3 h1, fun v hv => by rcases List.mem_cons.1 hv with rfl | hv; exact h4; exact h2 v hv⟩
theorem zeroOf_inv {P : Program} {t : TypeId} {z : List AV} (h : zeroOf P t = some z) : ∃ fs i us, P.underlying t = some (.struct fs) ∧ P.info? t = some i ∧ i.zero = some (.agg (List.toArray us)) ∧ okCells z us = true ∧ i.size = us.length := by
  unfold zeroOf at h
  split at h
  · rename_i fs i h1 h2
    split at h
    · rename_i us h3
      simp only at h
      split at h
      · rename_i hc
        injection h with h
        subst h
        simp only [Bool.and_eq_true, beq_iff_eq] at hc
        exact ⟨fs, i, us.toList, h1, h2, by simpa using h3, hc.1, by simpa using hc.2⟩
      · cases h
    · cases h
  · cases h
end
end Go.Proofs.YtgehlcgjchfibaaGreatDoor.F
namespace Go.Proofs.YtgehlcgjchfibaaGreatDoor.F
open Go Go.RowKit
section
variable {X : Env} {base : Nat → Prop} {μ : Nat → Value} {C : Nat → Nat → Prop} {w : World} {s : St} {a : Act} {rd : Bool}
theorem load_sound {t : TypeId} {n : Option Nat} {x : Operand} {y : Opd} {p : Prop} {v : AV} (ht : aggOf X.P t = some n) (hy : compOpd x = some y) (hk : Know X base μ C w s a true [y]) (hp : pureV X.G s (.ld n y) = some (p, v)) (h : p) :
    ∃ u, (Instr.loadAt t (a.eval x)).run X.P w = .ok u w ∧ Rel C w v u := by
  simp only [pureV] at hp
  split at hp
  · rename_i i off hv
    obtain ⟨h1, h2⟩ := hk y (by simp) x hy _ hv
    split at hp
    · rename_i T cs hi
      simp only [Option.map_eq_some_iff, Prod.mk.injEq] at hp
      obtain ⟨z, hz, rfl, rfl⟩ := hp
      obtain ⟨g, us, hm, hg, hh, hr, hu1, _⟩ := h2 rfl i _ (by simp [AV.nid]) hi
      obtain ⟨g', hm', he⟩ := h1
      rw [hm] at hm'
      injection hm' with hm'; injection hm' with hm'; injection hm' with hm'
      subst hm'
      rw [he]
      exact run_load_cut ht hr hu1 (box_cells hh) hz
    · cases hp
  · rename_i i j hv
    obtain ⟨h1, h2⟩ := hk y (by simp) x hy _ hv
    split at hp
    · rename_i E sz xs hi
      injection hp with hp
      simp only [Prod.mk.injEq] at hp
      obtain ⟨rfl, rfl⟩ := hp
      obtain ⟨hs, hj, hone⟩ := h
      subst hs
      obtain ⟨us, hr, hu, ho, _⟩ := h2 rfl i _ (by simp [AV.nid]) hi
      obtain ⟨g, n, cap, hm, he⟩ := h1
      rw [he]
      have hlu : j < us.length := by rw [← hr.1]; exact hj
      have hx := List.getElem?_eq_getElem hlu
      obtain ⟨hc1, hc2⟩ := hu _ (List.getElem_mem hlu)
      have hxx : xs.getD j .top = xs[j] := by simp [List.getD_eq_getElem?_getD, List.getElem?_eq_getElem hj]
      have hrel := hr.2 j _ _ (List.getElem?_eq_getElem hj) hx
      -- the one cell
      obtain ⟨c, hc⟩ : ∃ c, us[j].cells[0]? = some c := ⟨us[j].cells[0], by simp [hc1]⟩
      have hf := flat_getElem us (fun u h => (hu u h).1) j us[j] 0 c hx hc
      have hcell := ho.cells (g := g) (by rw [hm]; rfl) (j * 1 + 0) c hf
      rw [Addr.add_mid] at hcell
      simp only [Nat.mul_one, Nat.add_zero, Nat.zero_add] at hcell
      obtain ⟨d, i', hud, hd, _, _⟩ := aggOf_none ht
      obtain ⟨h3, he1⟩ := hrel.one (by rw [← hxx]; exact hone)
      rw [he1] at hc
      simp at hc
      subst hc
      refine ⟨us[j], ?_, by rw [hxx]; exact hrel⟩
      simp only [Instr.loadAt, Instr.sureAddr, loadVar, Sem.run_bind, Sem.run_pure, Result.andThen_ok, run_isAgg_no hud hd, Bool.false_eq_true, if_false, run_load, hcell]
    · cases hp
  · rename_i v' hv
    obtain ⟨h1, _⟩ := hk y (by simp) x hy _ hv
    obtain ⟨z, b, off, he, hr, hm⟩ := h1.ref_inv
    rw [he]
    split at hp
    · injection hp with hp
      simp only [Prod.mk.injEq] at hp
      obtain ⟨rfl, rfl⟩ := hp
      refine run_load_ref ht hr (fun j c hj => (hm j c hj).2) ?_
      revert h
      cases v' <;> simp [AV.one]
    · rename_i n cs
      injection hp with hp
      simp only [Prod.mk.injEq] at hp
      obtain ⟨rfl, rfl⟩ := hp
      exact run_load_ref ht hr (fun j c hj => (hm j c hj).2) h
    · cases hp
  · cases hp
theorem len_str (w : World) {t : TypeId} (z : List UInt8) (ty : TypeId) (ht : X.P.underlying t = some .string) : (Builtin.len_ #[t] ty #[.string ⟨z.toArray⟩]).run X.P w = .ok (.int .i64 z.length) w := by
  have : (⟨z.toArray⟩ : ByteArray).size = z.length := by simp [ByteArray.size]
  simp only [Builtin.len_, List.getElem?_toArray, List.getElem?_cons_zero, Sem.run_bind, run_underlying ht, Result.andThen_ok, Sem.run_pure, goInt, this]
theorem len_sl (w : World) {t e : TypeId} (A : Option Addr) (n c : Nat) (ty : TypeId) (ht : X.P.underlying t = some (.slice e)) : (Builtin.len_ #[t] ty #[.slice A n c]).run X.P w = .ok (.int .i64 n) w := by
  simp only [Builtin.len_, List.getElem?_toArray, List.getElem?_cons_zero, Sem.run_bind, run_underlying ht, Result.andThen_ok, Sem.run_pure, goInt]
theorem row_len {xs : List AV} {E sz : Nat} {m : Value} (h : ObRel C w base (.row E sz xs) m) : ∃ A c, m = .slice A xs.length c := by
  obtain ⟨us, hr, hu, ho, _⟩ := h
  rcases ho.2 with ⟨h1, h2⟩ | ⟨g, cap, cur, h1, _⟩
  · exact ⟨none, 0, by rw [h1, h2]⟩
  · exact ⟨_, _, h1⟩
theorem len_sound {q : Bool} {t : TypeId} {x : Operand} {y : Opd} {p : Prop} {v : AV} (ty : TypeId) (ht : q = true ∧ X.P.underlying t = some .string ∨ q = false ∧ ∃ e, X.P.underlying t = some (.slice e)) (hy : compOpd x = some y) (hk : Know X base μ C w s a true [y]) (hp : pureV X.G s (.len q y) = some (p, v)) (h : p) :
    ∃ u, (Builtin.len_ #[t] ty #[a.eval x]).run X.P w = .ok u w ∧ Rel C w v u := by
  rcases ht with ⟨rfl, ht⟩ | ⟨rfl, e, ht⟩
  · simp only [pureV] at hp
    split at hp
    · rename_i z hv
      injection hp with hp
      simp only [Prod.mk.injEq] at hp
      obtain ⟨rfl, rfl⟩ := hp
      rw [((hk y (by simp) x hy _ hv).1).str_inv]
      exact ⟨_, len_str w z ty ht, .int _ _⟩
    · cases hp
  · simp only [pureV] at hp
    split at hp
    · rename_i sz xs hv
      injection hp with hp
      simp only [Prod.mk.injEq] at hp
      obtain ⟨rfl, rfl⟩ := hp
      obtain ⟨A, cap, he, _⟩ := ((hk y (by simp) x hy _ hv).1).sl_inv
      rw [he]
      exact ⟨_, len_sl w A _ cap ty ht, .int _ _⟩
    · rename_i hv
      injection hp with hp
      simp only [Prod.mk.injEq] at hp
      obtain ⟨rfl, rfl⟩ := hp
      rw [((hk y (by simp) x hy _ hv).1).nil_inv]
      exact ⟨_, len_sl w none 0 0 ty ht, .int _ _⟩
    · rename_i j hv
      split at hp
      · rename_i E sz xs hi
        injection hp with hp
        simp only [Prod.mk.injEq] at hp
        obtain ⟨rfl, rfl⟩ := hp
        obtain ⟨h1, h2⟩ := hk y (by simp) x hy _ hv
        have h1' : a.eval x = μ j := h1.1
        obtain ⟨A, c, he⟩ := row_len (h2 rfl j _ (by simp [AV.nid]) hi)
        rw [h1', he]
        exact ⟨_, len_sl w A _ c ty ht, .int _ _⟩
      · cases hp
    · cases hp
theorem Know.at {ys : List Opd} (hk : Know X base μ C w s a rd ys) {y : Opd} (hy : y ∈ ys) {x : Operand} (hx : compOpd x = some y) {v : AV} (hv : opd X.G s y = some v) : TRel μ C w v (a.eval x) := (hk y hy x hx v hv).1
theorem pure_sound {ow : List Nat} {o : Oper} {op : IOp} {p : Prop} {v : AV} (hc : compOp X.P ow o = some op) (hk : Know X base μ C w s a op.rd op.opds) (hp : pureV X.G s op = some (p, v)) (h : p) :
    ∃ u, (execOp a.eval o).run X.P w = .ok (.value u) w ∧ TRel μ C w v u := by
  unfold compOp at hc
  unfold execOp
  split at hc
  · rename_i x ho
    obtain ⟨y, hy, rfl⟩ := compOpd_map hc
    simp only [pureV, Option.map_eq_some_iff, Prod.mk.injEq] at hp
    obtain ⟨z, hz, rfl, rfl⟩ := hp
    simp only [ho]
    exact ⟨_, rfl, hk.at (by simp [IOp.opds]) hy hz⟩
  · rename_i x ho
    obtain ⟨y, hy, rfl⟩ := compOpd_map hc
    simp only [pureV, Option.map_eq_some_iff, Prod.mk.injEq] at hp
    obtain ⟨z, hz, rfl, rfl⟩ := hp
    simp only [ho]
    exact ⟨_, rfl, hk.at (by simp [IOp.opds]) hy hz⟩
  · rename_i c x y ho
    split at hc
    · rename_i c' x' y' h1 h2 h3
      injection hc with hc; subst hc
      simp only [pureV] at hp
      simp only [ho]
      split at hp
      · rename_i b hb
        have e := (hk.at (by simp [IOp.opds]) h1 hb).bool_inv
        rw [e]
        split at hp
        · rename_i hb'
          simp only [Option.map_eq_some_iff, Prod.mk.injEq] at hp
          obtain ⟨z, hz, rfl, rfl⟩ := hp
          exact ⟨_, by simp [asBool, hb'], hk.at (by simp [IOp.opds]) h2 hz⟩
        · rename_i hb'
          simp only [Option.map_eq_some_iff, Prod.mk.injEq] at hp
          obtain ⟨z, hz, rfl, rfl⟩ := hp
          exact ⟨_, by simp [asBool, hb'], hk.at (by simp [IOp.opds]) h3 hz⟩
      · cases hp
    · cases hc
  · rename_i T x ho
    obtain ⟨y, hy, rfl⟩ := compOpd_map hc
    simp only [pureV] at hp
    simp only [ho]
    split at hp
    · rename_i b hb
      injection hp with hp
      simp only [Prod.mk.injEq] at hp
      obtain ⟨rfl, rfl⟩ := hp
      rw [(hk.at (by simp [IOp.opds]) hy hb).bool_inv]
      exact ⟨_, by simp [Op.unary], .bool _⟩
    · cases hp
  · rename_i T x ho
    obtain ⟨y, hy, rfl⟩ := compOpd_map hc
    simp only [pureV] at hp
    simp only [ho]
    split at hp
    · rename_i k n hb
      injection hp with hp
      simp only [Prod.mk.injEq] at hp
      obtain ⟨rfl, rfl⟩ := hp
      rw [(hk.at (by simp [IOp.opds]) hy hb).int_inv]
      refine ⟨.int k (k.wrap (0 - n)), ?_, .int _ _⟩
      simp only [Op.unary, Op.intArith, Sem.run_bind, Sem.run_pure, Result.andThen_ok]
    · cases hp
  · rename_i b T x y U ho
    split at hc
    · rename_i x' y' h1 h2
      injection hc with hc; subst hc
      simp only [pureV] at hp
      simp only [ho]
      split at hp
      · rename_i u v hu hv
        obtain ⟨r, hr, hrel⟩ := bin_sound (xo := x) (yo := y) (hk.at (by simp [IOp.opds]) h1 hu) (hk.at (by simp [IOp.opds]) h2 hv) hp h
        exact ⟨r, by rw [Sem.run_bind, hr]; rfl, hrel⟩
      · cases hp
    · cases hc
  · -- convert
    rename_i S D x ho
    split at hc
    · rename_i x' k0 k h1 h2 h3
      injection hc with hc; subst hc
      simp only [pureV] at hp
      simp only [ho]
      split at hp
      · rename_i k' n hn
        injection hp with hp
        simp only [Prod.mk.injEq] at hp
        obtain ⟨rfl, rfl⟩ := hp
        rw [(hk.at (by simp [IOp.opds]) h1 hn).int_inv]
        have hd : X.P.underlying D = some (.int k) := by
          unfold intOf? at h3
          split at h3
          · rename_i e; injection h3 with h3; subst h3; exact e
          · cases h3
        have hs : X.P.underlying S = some (.int k0) := by
          unfold intOf? at h2
          split at h2
          · rename_i e; injection h2 with h2; subst h2; exact e
          · cases h2
        refine ⟨.int k (k.wrap n), ?_, .int _ _⟩
        simp only [convert, Sem.run_bind, run_underlying hs, run_underlying hd, Result.andThen_ok, Conv.intToInt, Sem.run_pure]
      · cases hp
    · rename_i x' e h1 h2 h3 hne
      split at hc
      · rename_i he
        injection hc with hc; subst hc
        simp only [pureV] at hp
        simp only [ho]
        split at hp
        · rename_i sz xs hx
          injection hp with hp
          simp only [Prod.mk.injEq] at hp
          obtain ⟨rfl, rfl⟩ := hp
          obtain ⟨rfl, hb⟩ := h
          have he' : X.P.underlying e = some (.int .u8) := by
            unfold intOf? at he
            split at he
            · rename_i q; injection he with he; subst he; exact q
            · cases he
          refine ⟨_, ?_, .str _⟩
          rw [Sem.run_bind, bytes_str (hk.at (by simp [IOp.opds]) h1 hx) hb h2 he' h3]
          rfl
        · cases hp
      · cases hc
    · cases hc
  · -- alloc
    simp only [Option.map_eq_some_iff] at hc
    obtain ⟨z, _, rfl⟩ := hc
    simp [pureV] at hp
  · -- box
    split at hc
    · injection hc with hc; subst hc; simp [pureV] at hp
    · cases hc
  · -- build
    rename_i T ps ho
    split at hc
    · rename_i fs z hfs hz
      split at hc
      · rename_i pl hpl
        simp only [Option.map_eq_some_iff] at hc
        obtain ⟨qs, hqs, rfl⟩ := hc
        simp only [pureV, Option.map_eq_some_iff, Prod.mk.injEq] at hp
        obtain ⟨cs, hcs, rfl, rfl⟩ := hp
        obtain ⟨fs', i, us, hu, hi, hzv, hok, hsz⟩ := zeroOf_inv hz
        rw [hfs] at hu
        injection hu with hu; injection hu with hu; subst hu
        obtain ⟨hr, h1⟩ := okCells_rel (C := C) (w := w) hok
        obtain ⟨us', hf, hr', h1'⟩ := fill_sound ps.toList qs z cs us hqs hk hr h1 hcs
        simp only [ho]
        refine ⟨.agg us'.toArray, ?_, .agg _ _ hr'.1 hr'.2 h1'⟩
        rw [Sem.run_bind, run_build w T _ us'.toArray]
        · rfl
        · unfold Program.built
          simp only [hi, hfs, hzv, hpl, Array.toList_map]
          exact hf
      · cases hc
    · cases hc
  · -- buildSlice
    split at hc
    · split at hc
      · injection hc with hc; subst hc; simp [pureV] at hp
      · cases hc
    · cases hc
  · -- makeSlice
    split at hc
    · split at hc
      · split at hc
        · split at hc
          · split at hc
            · split at hc
              · injection hc with hc; subst hc; simp [pureV] at hp
              · cases hc
            · cases hc
          · cases hc
        · cases hc
      · cases hc
    · cases hc
  · -- load
    rename_i T x ho
    split at hc
    · rename_i n x' h1 h2
      injection hc with hc; subst hc
      obtain ⟨u, hr, hrel⟩ := load_sound h1 h2 hk hp h
      simp only [ho]
      exact ⟨u, by rw [Sem.run_bind, hr]; rfl, .of_rel hrel⟩
    · cases hc
  · -- store
    split at hc
    · injection hc with hc; subst hc; simp [pureV] at hp
    · cases hc
  · -- fieldAddr
    rename_i T x f ho
    split at hc
    · rename_i off n x' h1 h2
      injection hc with hc; subst hc
      simp only [ho]
      simp only [pureV] at hp
      split at hp
      · rename_i i o' hv
        injection hp with hp
        simp only [Prod.mk.injEq] at hp
        obtain ⟨rfl, rfl⟩ := hp
        obtain ⟨g, hm, he⟩ := hk.at (by simp [IOp.opds]) h2 hv
        rw [he]
        exact ⟨_, by rw [Sem.run_bind, run_fieldAt h1]; rfl, g, hm, rfl⟩
      · rename_i cs hv
        simp only [Option.map_eq_some_iff, Prod.mk.injEq] at hp
        obtain ⟨z, hz, rfl, rfl⟩ := hp
        obtain ⟨q, b, o', he, hr, hm⟩ := (hk.at (by simp [IOp.opds]) h2 hv).ref_inv
        obtain ⟨us, rfl, hl, h1'⟩ := (TRel.of_rel (μ := μ) hr).agg_inv
        rw [he]
        exact ⟨_, by rw [Sem.run_bind, run_fieldAt h1]; rfl, .of_rel (ref_cut hl h1' (fun j c hj => hm j c (by simpa [Value.cells] using hj)) hz)⟩
      · rename_i f' hv
        injection hp with hp
        simp only [Prod.mk.injEq] at hp
        obtain ⟨rfl, rfl⟩ := hp
        obtain ⟨rfl, rfl⟩ := h
        obtain ⟨q, b, o', he, hr, hm⟩ := (hk.at (by simp [IOp.opds]) h2 hv).ref_inv
        rw [he]
        exact ⟨_, by rw [Sem.run_bind, run_fieldAt h1]; rfl, .of_rel (.ref _ q b o' hr hm)⟩
      · cases hp
    · cases hc
  · -- field
    rename_i T x f ho
    split at hc
    · rename_i off n x' h1 h2
      injection hc with hc; subst hc
      simp only [ho]
      simp only [pureV] at hp
      split at hp
      · rename_i cs hv
        simp only [Option.map_eq_some_iff, Prod.mk.injEq] at hp
        obtain ⟨z, hz, rfl, rfl⟩ := hp
        obtain ⟨us, he, hl, h1'⟩ := (hk.at (by simp [IOp.opds]) h2 hv).agg_inv
        rw [he]
        obtain ⟨u, hr, hrel⟩ := run_field h1 hl h1' hz
        exact ⟨u, by rw [Sem.run_bind, hr]; rfl, .of_rel hrel⟩
      · cases hp
    · cases hc
  · -- indexAddr
    rename_i T x i ho
    split at hc
    · rename_i e x' i' h1 h2 h3
      split at hc
      · rename_i he
        injection hc with hc; subst hc
        simp only [ho]
        simp only [pureV] at hp
        split at hp
        · rename_i sz' xs k n hx hn
          injection hp with hp
          simp only [Prod.mk.injEq] at hp
          obtain ⟨rfl, rfl⟩ := hp
          obtain ⟨hs, h0, hl⟩ := h
          rw [(hk.at (by simp [IOp.opds]) h3 hn).int_inv]
          obtain ⟨u, hr, hrel⟩ := sl_ref (hk.at (by simp [IOp.opds]) h2 hx) h0 hl h1 hs.symm he k
          exact ⟨u, by rw [Sem.run_bind, hr]; rfl, .of_rel hrel⟩
        · rename_i j k n hx hn
          split at hp
          · rename_i E sz' xs hj
            injection hp with hp
            simp only [Prod.mk.injEq] at hp
            obtain ⟨rfl, rfl⟩ := hp
            obtain ⟨hs, hs1, h0, hl⟩ := h
            rw [(hk.at (by simp [IOp.opds]) h3 hn).int_inv]
            obtain ⟨h4, h5⟩ := hk x' (by simp [IOp.opds]) x h2 _ hx
            have h4' : a.eval x = μ j := h4.1
            obtain ⟨us, hr, hu, hown, _⟩ := h5 rfl j _ (by simp [AV.nid]) hj
            rcases hown.2 with ⟨_, hz⟩ | ⟨g, cap, cur, hm, hb, hh, hc', _⟩
            · simp at hz; subst hz; simp at hl; omega
            · rw [h4', hm]
              obtain ⟨ii, hii⟩ := Option.isSome_iff_exists.1 he
              have hcond : 0 ≤ n ∧ n < (xs.length : Int) := ⟨h0, hl⟩
              refine ⟨.pointer (some ⟨g, n.toNat, none⟩), ?_, g, _, cap, hm, rfl⟩
              simp only [Instr.indexAt, asIntOf, Sem.run_bind, Sem.run_pure, Result.andThen_ok, run_underlying h1, hcond, and_self, if_true, run_sizeOf w hii, Addr.add_mid, hs1, Nat.mul_one, Nat.zero_add]
          · cases hp
        · cases hp
      · cases hc
    · rename_i n0 e x' i' h1 h2 h3
      split at hc
      · rename_i he
        injection hc with hc; subst hc
        simp only [ho]
        simp only [pureV] at hp
        split at hp
        · rename_i cs k n hx hn
          injection hp with hp
          simp only [Prod.mk.injEq] at hp
          obtain ⟨rfl, rfl⟩ := hp
          obtain ⟨hs, h0, hl, hl2⟩ := h
          rw [(hk.at (by simp [IOp.opds]) h3 hn).int_inv]
          obtain ⟨q, b, o', hv, hr, hm⟩ := (hk.at (by simp [IOp.opds]) h2 hx).ref_inv
          obtain ⟨us, rfl, hl', h1'⟩ := (TRel.of_rel (μ := μ) hr).agg_inv
          rw [hv]
          obtain ⟨ii, hii⟩ := Option.isSome_iff_exists.1 he
          have hcond : 0 ≤ n ∧ n < (n0 : Int) := ⟨h0, hl⟩
          refine ⟨.pointer (some ⟨b, o' + n.toNat, none⟩), ?_, .of_rel (ref_cut (n := none) hl' h1' (fun j c hj => hm j c (by simpa [Value.cells] using hj)) ?_)⟩
          · simp only [Instr.indexAt, asIntOf, Sem.run_bind, Sem.run_pure, Result.andThen_ok, run_underlying h1, hcond, and_self, if_true, run_sizeOf w hii, Addr.add_mid, hs, Nat.mul_one, Nat.zero_add, Instr.sureAddr]
          · simp only [cut, List.getD_eq_getElem?_getD]
            have : n.toNat < cs.length := by omega
            rw [List.getElem?_eq_getElem this]
            rfl
        · rename_i j off k n hx hn
          injection hp with hp
          simp only [Prod.mk.injEq] at hp
          obtain ⟨rfl, rfl⟩ := hp
          obtain ⟨hs, h0, hl⟩ := h
          rw [(hk.at (by simp [IOp.opds]) h3 hn).int_inv]
          obtain ⟨g, hm, hv⟩ := hk.at (by simp [IOp.opds]) h2 hx
          rw [hv]
          obtain ⟨ii, hii⟩ := Option.isSome_iff_exists.1 he
          have hcond : 0 ≤ n ∧ n < (n0 : Int) := ⟨h0, hl⟩
          refine ⟨.pointer (some ⟨g, off + n.toNat, none⟩), ?_, g, hm, rfl⟩
          simp only [Instr.indexAt, asIntOf, Sem.run_bind, Sem.run_pure, Result.andThen_ok, run_underlying h1, hcond, and_self, if_true, run_sizeOf w hii, Addr.add_mid, hs, Nat.mul_one, Instr.sureAddr]
        · cases hp
      · cases hc
    · cases hc
  · -- index
    rename_i T x i ho
    split at hc
    · rename_i x' i' h1 h2 h3
      injection hc with hc; subst hc
      simp only [ho]
      simp only [pureV] at hp
      split at hp
      · rename_i z k n hx hn
        injection hp with hp
        simp only [Prod.mk.injEq] at hp
        obtain ⟨rfl, rfl⟩ := hp
        rw [(hk.at (by simp [IOp.opds]) h3 hn).int_inv, (hk.at (by simp [IOp.opds]) h2 hx).str_inv]
        exact ⟨_, by rw [Sem.run_bind, run_index_str h1 h.1 h.2 k]; rfl, .int _ _⟩
      · cases hp
    · cases hc
  · -- slice
    rename_i T x lo hi ho
    split at hc
    · rename_i x' lo' hi' h1 h2 h3 h4
      injection hc with hc; subst hc
      simp only [ho]
      simp only [pureV] at hp
      split at hp
      · rename_i t hx
        split at hp
        · rename_i l r hl hr
          injection hp with hp
          simp only [Prod.mk.injEq] at hp
          obtain ⟨rfl, rfl⟩ := hp
          obtain ⟨h0, hlr, hrt⟩ := h
          rw [(hk.at (by simp [IOp.opds]) h2 hx).str_inv]
          refine ⟨_, ?_, .str _⟩
          rw [Sem.run_bind, Option.map_none, run_slice_str (l := l.toNat) (r := r.toNat) h1 (by omega) (by omega) (lo_inv h3 (hk.sub (by simp [IOp.opds]; intro z hz; simp [hz])) hl h0) (hi_inv h4 (hk.sub (by simp [IOp.opds]; intro z hz; simp [hz])) hr (by omega))]
          rfl
        · cases hp
      · cases hp
    · rename_i e x' lo' hi' h1 h2 h3 h4
      split at hc
      · rename_i he
        injection hc with hc; subst hc
        simp only [ho]
        simp only [pureV] at hp
        split at hp
        · rename_i sz' xs hx
          split at hp
          · rename_i l r hl hr
            injection hp with hp
            simp only [Prod.mk.injEq] at hp
            obtain ⟨rfl, rfl⟩ := hp
            obtain ⟨hs, h0, hlr, hrt⟩ := h
            subst hs
            obtain ⟨u, hrun, hrel⟩ := sl_cut (l := l.toNat) (r := r.toNat) (hk.at (by simp [IOp.opds]) h2 hx) (by omega) (by omega) h1 rfl he (lo_inv h3 (hk.sub (by simp [IOp.opds]; intro z hz; simp [hz])) hl h0) (hi_inv h4 (hk.sub (by simp [IOp.opds]; intro z hz; simp [hz])) hr (by omega))
            exact ⟨u, by rw [Sem.run_bind, Option.map_none, hrun]; rfl, .of_rel hrel⟩
          · cases hp
        · cases hp
      · cases hc
    · cases hc
  · -- extract
    rename_i x i ho
    obtain ⟨y, hy, rfl⟩ := compOpd_map hc
    simp only [pureV] at hp
    simp only [ho]
    split at hp
    · rename_i vs hv
      simp only [Option.map_eq_some_iff, Prod.mk.injEq] at hp
      obtain ⟨z, hz, rfl, rfl⟩ := hp
      obtain ⟨us, he, hl⟩ := (hk.at (by simp [IOp.opds]) hy hv).tup_inv
      rw [he]
      have hlt : i < us.length := by rw [← hl.1]; exact (List.getElem?_eq_some_iff.1 hz).1
      have hx := List.getElem?_eq_getElem hlt
      refine ⟨us[i], ?_, .of_rel (hl.2 i z _ hz hx)⟩
      simp only [Instr.extract, List.getElem?_toArray, hx, Sem.run_bind, Sem.run_pure, Result.andThen_ok]
    · cases hp
  · -- call
    rename_i c ho
    split at hc
    · -- a function
      split at hc
      · simp only [Option.map_eq_some_iff] at hc
        obtain ⟨xs, _, hc⟩ := hc
        have hcall := callI_isCall hc
        cases op <;> first | (cases hcall; done) | (simp [pureV] at hp; done)
      · cases hc
    · split at hc
      · injection hc with hc; subst hc; simp [pureV] at hp
      · cases hc
    · -- len
      rename_i hcal
      split at hc
      · rename_i x T hxs hts
        have hargs : c.args = #[x] := by apply Array.ext'; simpa using hxs
        have htys : c.argTypes = #[T] := by apply Array.ext'; simpa using hts
        split at hc
        · rename_i x' h1 h2
          injection hc with hc; subst hc
          obtain ⟨u, hr, hrel⟩ := len_sound (q := true) o.type (.inl ⟨rfl, h2⟩) h1 hk hp h
          simp only [ho]
          refine ⟨u, ?_, .of_rel hrel⟩
          simp only [resolve, hcal, invoke, builtin, Sem.run_bind, Sem.run_pure, Result.andThen_ok, hargs, htys, List.map_toArray, List.map_cons, List.map_nil, hr]
        · rename_i x' e h1 h2
          injection hc with hc; subst hc
          obtain ⟨u, hr, hrel⟩ := len_sound (q := false) o.type (.inr ⟨rfl, e, h2⟩) h1 hk hp h
          simp only [ho]
          refine ⟨u, ?_, .of_rel hrel⟩
          simp only [resolve, hcal, invoke, builtin, Sem.run_bind, Sem.run_pure, Result.andThen_ok, hargs, htys, List.map_toArray, List.map_cons, List.map_nil, hr]
        · cases hc
      · cases hc
    · -- append
      split at hc
      · split at hc
        · split at hc
          · injection hc with hc; subst hc; simp [pureV] at hp
          · cases hc
        · cases hc
      · cases hc
    · -- max
      rename_i hcal
      split at hc
      · rename_i x y hxs
        have hargs : c.args = #[x, y] := by apply Array.ext'; simpa using hxs
        split at hc
        · rename_i x' y' h1 h2
          injection hc with hc; subst hc
          simp only [pureV] at hp
          simp only [ho]
          split at hp
          · rename_i k m k' n hx hy
            injection hp with hp
            simp only [Prod.mk.injEq] at hp
            obtain ⟨rfl, rfl⟩ := hp
            refine ⟨.int k (if m < n then n else m), ?_, .int _ _⟩
            simp only [resolve, hcal, invoke, builtin, Sem.run_bind, Sem.run_pure, Result.andThen_ok, hargs, List.map_toArray, List.map_cons, List.map_nil, (hk.at (by simp [IOp.opds]) h1 hx).int_inv, (hk.at (by simp [IOp.opds]) h2 hy).int_inv, Builtin.max_, List.foldlM_cons, List.foldlM_nil, Builtin.max2]
          · cases hp
        · cases hc
      · cases hc
    · -- min
      rename_i hcal
      split at hc
      · rename_i x y hxs
        have hargs : c.args = #[x, y] := by apply Array.ext'; simpa using hxs
        split at hc
        · rename_i x' y' h1 h2
          injection hc with hc; subst hc
          simp only [pureV] at hp
          simp only [ho]
          split at hp
          · rename_i k m k' n hx hy
            injection hp with hp
            simp only [Prod.mk.injEq] at hp
            obtain ⟨rfl, rfl⟩ := hp
            refine ⟨.int k (if n < m then n else m), ?_, .int _ _⟩
            simp only [resolve, hcal, invoke, builtin, Sem.run_bind, Sem.run_pure, Result.andThen_ok, hargs, List.map_toArray, List.map_cons, List.map_nil, (hk.at (by simp [IOp.opds]) h1 hx).int_inv, (hk.at (by simp [IOp.opds]) h2 hy).int_inv, Builtin.min_, List.foldlM_cons, List.foldlM_nil, Builtin.min2]
          · cases hp
        · cases hc
      · cases hc
    · cases hc
  · cases hc
end
end Go.Proofs.YtgehlcgjchfibaaGreatDoor.F
namespace Go.Proofs.YtgehlcgjchfibaaGreatDoor.F
open Go Go.RowKit
section
variable {X : Ctx} {μ : Nat → Value} {C : Nat → Nat → Prop} {T : Nat → Option AV} {O : Nat → Option Ob} {a : Act} {w : World}
theorem alloc_heap (w : World) (o : Obj) : Below w.heap.size w (w.alloc o) := (Below.refl _ _).alloc (Nat.le_refl _) o
theorem InvAt.npin (h : InvAt X μ C T O a w) {d : Nat} (hd : d < X.nt) : d ≠ pinned := fun e => Nat.lt_irrefl _ (Nat.lt_of_lt_of_le (e ▸ hd) h.nb)
theorem InvAt.c_lt (h : InvAt X μ C T O a w) : ∀ b o, C b o → b < w.heap.size := fun b o hc => (h.cw b o hc).1
theorem InvAt.newBox (h : InvAt X μ C T O a w) {d : Nat} (hd : d < X.nt) {Ty : TypeId} {cs : List AV} {us : List Value} (hr : RelL C w cs us) (h1 : ∀ u ∈ us, u.oneCell' = true) :
    InvAt X (updμ μ d (.pointer (some ⟨w.heap.size, 0, none⟩))) C (setF (fun t => killF d (T t)) d (some (.box d 0))) (setF O d (some (.box Ty cs))) (a.put (some d) (.pointer (some ⟨w.heap.size, 0, none⟩))) (w.alloc (.cells us.toArray Ty)) := by
  have hb := alloc_heap w (.cells us.toArray Ty)
  have hcell : ∀ b o, C b o → (w.alloc (.cells us.toArray Ty)).cell? ⟨b, o, none⟩ = w.cell? ⟨b, o, none⟩ := fun b o hc => cell_same (hb.block b (h.c_lt b o hc)) o
  refine h.obj hd (h.npin hd) (fun _ _ h => h) hcell (fun b o hc => ⟨Nat.lt_of_lt_of_le (h.c_lt b o hc) hb.size, (h.cw b o hc).2⟩) (h.be.below h.nw hb) ?_ (fun j c hj hc g hg => ?_) ⟨w.heap.size, by simp [updμ], rfl⟩
  · exact ⟨_, us, rfl, h.nw _ h.be.size, heap_alloc_new w _, hr.mono (fun _ _ h => h) hcell, h1, fun o hc => Nat.lt_irrefl _ (h.c_lt _ o hc)⟩
  · have := (h.ob j c hc).lt g hg
    exact ⟨hb.block g this.2.1, fun _ h => h, by simp only [mblk, ne_eq, Option.some.injEq]; omega⟩
theorem InvAt.newRow (h : InvAt X μ C T O a w) {d : Nat} (hd : d < X.nt) {E sz cap : Nat} {cs : List AV} {us : List Value} {cur : Array Value} (hr : RelL C w cs us) (h1 : ∀ u ∈ us, u.cells.size = sz ∧ ∀ c ∈ u.cells.toList, c.oneCell' = true)
    (hcap : cs.length ≤ cap) (hm : cap ≤ maxLen) (hsz : cur.size = cap * sz) (htake : cur.toList.take (cs.length * sz) = cellsOf us) (hlen : (cellsOf us).length = cs.length * sz) :
    InvAt X (updμ μ d (.slice (some ⟨w.heap.size, 0, none⟩) cs.length cap)) C (setF (fun t => killF d (T t)) d (some (.own d))) (setF O d (some (.row E sz cs))) (a.put (some d) (.slice (some ⟨w.heap.size, 0, none⟩) cs.length cap)) (w.alloc (.cells cur E)) := by
  have hb := alloc_heap w (.cells cur E)
  have hcell : ∀ b o, C b o → (w.alloc (.cells cur E)).cell? ⟨b, o, none⟩ = w.cell? ⟨b, o, none⟩ := fun b o hc => cell_same (hb.block b (h.c_lt b o hc)) o
  refine h.obj hd (h.npin hd) (fun _ _ h => h) hcell (fun b o hc => ⟨Nat.lt_of_lt_of_le (h.c_lt b o hc) hb.size, (h.cw b o hc).2⟩) (h.be.below h.nw hb) ?_ (fun j c hj hc g hg => ?_) ⟨by simp [updμ], _, _, _, by simp [updμ]; exact ⟨rfl, rfl, rfl⟩⟩
  · refine ⟨us, hr.mono (fun _ _ h => h) hcell, h1, ⟨hlen, .inr ⟨w.heap.size, cap, cur, rfl, Nat.zero_le _, heap_alloc_new w _, hcap, hm, hsz, htake⟩⟩, fun g hg => ?_⟩
    have : w.heap.size = g := by simpa [mblk] using hg
    subst this
    exact ⟨h.nw _ h.be.size, fun o hc => Nat.lt_irrefl _ (h.c_lt _ o hc)⟩
  · have := (h.ob j c hc).lt g hg
    exact ⟨hb.block g this.2.1, fun _ h => h, by simp only [mblk, ne_eq, Option.some.injEq]; omega⟩
theorem run_storeVar_box {P : Program} {t : TypeId} {i : TypeInfo} {us cs : List Value} {g off : Nat} {Ty : TypeId} {v : Value} (hi : P.info? t = some i) (hs : i.size = cs.length) (hv : v.cells = cs.toArray) (h1 : ∀ u ∈ cs, u.oneCell' = true)
    (hh : w.heap[g]? = some (.cells us.toArray Ty (0, 0))) (hl : off + cs.length ≤ us.length) :
    (Instr.storeAt t (.pointer (some ⟨g, off, none⟩)) v).run P w = .ok () (w.setRow g (us.take off ++ cs ++ us.drop (off + cs.length)).toArray) := by
  have := run_storeCells_at P g off Ty cs 0 us.toArray w hh (by simpa using hl) h1
  simp only [Nat.add_zero, List.toList_toArray] at this
  simp only [Instr.storeAt, Instr.sureAddr, storeVar, Sem.run_bind, Sem.run_pure, Result.andThen_ok, sizeOf, run_typeInfo w hi, hv, List.size_toArray, hs, ne_eq, not_true_eq_false, if_false, List.toList_toArray, this]
theorem InvAt.storeBox (h : InvAt X μ C T O a w) {i off : Nat} {Ty : TypeId} {cs vs : List AV} {us : List Value} (hi : O i = some (.box Ty cs)) {x : Value} (hx : TRel μ C w (.box i off) x) (hr : RelL C w vs us) (h1 : ∀ u ∈ us, u.oneCell' = true) (hl : off + vs.length ≤ cs.length)
    {t : TypeId} {info : TypeInfo} (hinf : X.P.info? t = some info) (hs : info.size = vs.length) {v : Value} (hv : v.cells = us.toArray) :
    ∃ w', (Instr.storeAt t x v).run X.P w = .ok () w' ∧ InvAt X μ C T (setF O i (some (.box Ty (splice cs off vs)))) a w' := by
  obtain ⟨g, ks, hm, hg, hh, hk, hk1, hn⟩ := h.ob i _ hi
  obtain ⟨g', hm', rfl⟩ := hx
  rw [hm] at hm'
  injection hm' with hm'; injection hm' with hm'; injection hm' with hm'
  subst hm'
  have hul : us.length = vs.length := hr.1.symm
  have hkl : ks.length = cs.length := hk.1.symm
  refine ⟨_, run_storeVar_box hinf (by rw [hul]; exact hs) hv h1 hh (by omega), ?_⟩
  have hw : ∀ b o, C b o → (w.setRow g (ks.take off ++ us ++ ks.drop (off + us.length)).toArray).cell? ⟨b, o, none⟩ = w.cell? ⟨b, o, none⟩ := fun b o hc => cell_same (setRow_other w g b _ fun e => hn o (e ▸ hc)) o
  refine h.upd hi ?_ (fun k hk' => setRow_other w g k _ fun e => hk' (by rw [hm, e]; rfl)) (by simp) ⟨rfl, rfl, rfl⟩
  rw [hm]
  refine ⟨g, ks.take off ++ us ++ ks.drop (off + us.length), rfl, hg, setRow_heap w g _ _ _ _ hh, (hk.splice hr off).mono (fun _ _ h => h) hw, fun u hu => ?_, hn⟩
  simp only [List.append_assoc, List.mem_append] at hu
  rcases hu with hu | hu | hu
  · exact hk1 u (List.mem_of_mem_take hu)
  · exact h1 u hu
  · exact hk1 u (List.mem_of_mem_drop hu)
theorem cellsOf_one : ∀ {us : List Value}, (∀ u ∈ us, u.cells = #[u]) → cellsOf us = us
  | [], _ => rfl
  | u :: us, h => by
    simp only [cellsOf, List.flatMap_cons, h u (by simp)]
    have := cellsOf_one (us := us) fun v hv => h v (by simp [hv])
    simp only [cellsOf] at this
    rw [this]; rfl
theorem cellsOf_len {sz : Nat} : ∀ {us : List Value}, (∀ u ∈ us, u.cells.size = sz) → (cellsOf us).length = us.length * sz
  | [], _ => by simp [cellsOf]
  | u :: us, h => by
    have h1 : u.cells.toList.length = sz := by simpa using h u (by simp)
    have h2 := cellsOf_len (us := us) fun v hv => h v (by simp [hv])
    simp only [cellsOf, List.flatMap_cons, List.length_append, h1, List.length_cons] at h2 ⊢
    rw [h2, Nat.add_mul]; omega
theorem cellsOf_set {u c : Value} (hu : u.cells = #[c]) : ∀ {us : List Value} {j : Nat}, (∀ u ∈ us, u.cells.size = 1) → cellsOf (us.set j u) = (cellsOf us).set j c
  | [], j, _ => by simp [cellsOf]
  | x :: us, 0, h => by
    have h1 : x.cells.toList.length = 1 := by simpa using h x (by simp)
    obtain ⟨z, hz⟩ : ∃ z, x.cells.toList = [z] := by
      match hq : x.cells.toList, h1 with
      | [z], _ => exact ⟨z, rfl⟩
    simp [cellsOf, hu, hz]
  | x :: us, j + 1, h => by
    have h1 : x.cells.toList.length = 1 := by simpa using h x (by simp)
    obtain ⟨z, hz⟩ : ∃ z, x.cells.toList = [z] := by
      match hq : x.cells.toList, h1 with
      | [z], _ => exact ⟨z, rfl⟩
    have := cellsOf_set hu (us := us) (j := j) fun v hv => h v (by simp [hv])
    simp only [cellsOf, List.set_cons_succ, List.flatMap_cons, hz, List.cons_append, List.nil_append] at this ⊢
    rw [this]
theorem InvAt.storeElt (h : InvAt X μ C T O a w) {i j E : Nat} {xs : List AV} (hi : O i = some (.row E 1 xs)) {x : Value} (hx : TRel μ C w (.elt i j) x) {v : AV} {u : Value} (hr : Rel C w v u) (hv : v.one = true) (hj : j < xs.length)
    {t : TypeId} {info : TypeInfo} (hinf : X.P.info? t = some info) (hs : info.size = 1) :
    ∃ w', (Instr.storeAt t x u).run X.P w = .ok () w' ∧ InvAt X μ C T (setF O i (some (.row E 1 (xs.set j v)))) a w' := by
  obtain ⟨us, hru, hu, ho, hn⟩ := h.ob i _ hi
  obtain ⟨g, n, cap, hm, rfl⟩ := hx
  obtain ⟨h1, h2⟩ := hr.one hv
  rcases ho.2 with ⟨he, _⟩ | ⟨g', cap', cur, he, hb, hh, hnc, hcm, hcs, htake⟩
  · rw [hm] at he; simp at he
  · rw [hm] at he
    injection he with he1 he2 he3
    injection he1 with he1; injection he1 with he1
    subst he1
    have hjc : j < cur.size := by omega
    have hst := run_storeCells_at X.P g j E [u] 0 cur w hh (by simp; omega) (by simp [h1])
    simp only [Nat.add_zero, List.length_cons, List.length_nil, Nat.zero_add] at hst
    have hrun : (Instr.storeAt t (.pointer (some ⟨g, j, none⟩)) u).run X.P w = .ok () (w.setRow g (cur.toList.take j ++ [u] ++ cur.toList.drop (j + 1)).toArray) := by
      simp only [Instr.storeAt, Instr.sureAddr, storeVar, Sem.run_bind, Sem.run_pure, Result.andThen_ok, sizeOf, run_typeInfo w hinf, h2, hs]
      simpa using hst
    refine ⟨_, hrun, ?_⟩
    have hw : ∀ b o, C b o → (w.setRow g (cur.toList.take j ++ [u] ++ cur.toList.drop (j + 1)).toArray).cell? ⟨b, o, none⟩ = w.cell? ⟨b, o, none⟩ := fun b o hc => cell_same (setRow_other w g b _ fun e => (hn g (by rw [hm]; rfl)).2 o (e ▸ hc)) o
    refine h.upd hi ?_ (fun k hk' => setRow_other w g k _ fun e => hk' (by rw [hm, e]; rfl)) (by simp) ⟨rfl, rfl, rfl⟩
    have hset : cur.toList.take j ++ [u] ++ cur.toList.drop (j + 1) = cur.toList.set j u := by
      rw [List.set_eq_take_append_cons_drop, if_pos (by simpa using hjc)]
      simp
    refine ⟨us.set j u, ⟨by simp [hru.1], fun k y z hy hz => ?_⟩, fun z hz => ?_, ⟨?_, .inr ⟨g, cap', _, ?_, hb, setRow_heap w g _ _ _ _ hh, by simpa using hnc, hcm, ?_, ?_⟩⟩, hn⟩
    · rw [List.getElem?_set] at hy hz
      split at hy
      · rename_i e
        rw [if_pos e] at hz
        first
          | (injection hy with hy
             split at hz
             · injection hz with hz
               subst hy hz
               exact hr.mono (fun _ _ h => h) hw
             · cases hz)
          | (split at hy
             · injection hy with hy
               split at hz
               · injection hz with hz
                 subst hy hz
                 exact hr.mono (fun _ _ h => h) hw
               · cases hz
             · cases hy)
      · rename_i e
        rw [if_neg e] at hz
        exact (hru.2 k y z hy hz).mono (fun _ _ h => h) hw
    · rcases List.mem_or_eq_of_mem_set hz with hz | rfl
      · exact hu z hz
      · refine ⟨by rw [h2]; rfl, fun c hc => ?_⟩
        rw [h2] at hc
        simp at hc
        rw [hc]; exact h1
    · have hlu : us.length = xs.length := hru.1.symm
      rw [cellsOf_set h2 (fun z hz => (hu z hz).1), List.length_set, cellsOf_len (fun z hz => (hu z hz).1), List.length_set, hlu]
    · rw [hm]; simp [he2, he3]
    · simp only [hset, List.size_toArray, List.length_set, Array.length_toList]; exact hcs
    · simp only [hset, List.length_set, Nat.mul_one]
      rw [cellsOf_set h2 (fun z hz => (hu z hz).1), ← htake, List.take_set, Nat.mul_one]
theorem lit_inv {Y : Env} {base : Nat → Prop} {s : St} {rd : Bool} : ∀ (ps : List (Nat × Operand)) (n sz : Nat) (ys : List Opd) (vs : List AV), litM n ps = some ys → Know Y base μ C w s a rd ys → valsV Y.G s sz ys = some vs →
    ∃ us, ps.map (fun p => (p.1, a.eval p.2)) = (us.zipIdx n).map (fun x => (x.2, x.1)) ∧ RelL C w vs us ∧ ∀ u ∈ us, u.cells.size = sz ∧ ∀ c ∈ u.cells.toList, c.oneCell' = true
  | [], n, sz, ys, vs, h, hk, hv => by
    simp only [litM, Option.some.injEq] at h; subst h
    simp only [valsV, Option.some.injEq] at hv; subst hv
    exact ⟨[], rfl, RelL.nil _ _, by simp⟩
  | (i, x) :: ps, n, sz, ys, vs, h, hk, hv => by
    simp only [litM] at h
    split at h
    · rename_i hi
      subst hi
      split at h
      · rename_i y ys' hy hys
        injection h with h; subst h
        simp only [valsV] at hv
        split at hv
        · rename_i v vs' hv1 hv2
          split at hv
          · rename_i hl
            injection hv with hv; subst hv
            obtain ⟨ho, hp⟩ := valP hv1
            have hrel := ((hk y (by simp) x hy v ho).1).rel (AV.vok_plain hp)
            obtain ⟨cs, hcs, hcr, hc1⟩ := hrel.vok hp
            obtain ⟨us, h1, h2, h3⟩ := lit_inv ps (i + 1) sz ys' vs' hys (hk.sub fun z hz => List.mem_cons_of_mem _ hz) hv2
            refine ⟨a.eval x :: us, by simp [List.zipIdx_cons, h1], RelL.cons hrel h2, fun u hu => ?_⟩
            rcases List.mem_cons.1 hu with rfl | hu
            · rw [hcs]
              exact ⟨by simp [← hcr.1, hl], fun c hc => hc1 c (by simpa using hc)⟩
            · exact h3 u hu
          · cases hv
        · cases hv
      · cases h
    · cases h
theorem elemInfo_inv {P : Program} {t e sz by_ : Nat} (h : elemInfo P t = some (e, sz, by_)) : ∃ i z, P.underlying t = some (.slice e) ∧ P.info? e = some i ∧ i.zero = some z ∧ z.cells.size = sz ∧ i.size = sz ∧ i.bytes = by_ ∧ 0 < sz := by
  unfold elemInfo at h
  split at h
  · rename_i e' hu
    split at h
    · rename_i i hi
      split at h
      · rename_i z hz
        split at h
        · rename_i hc
          simp only [Bool.and_eq_true, beq_iff_eq, decide_eq_true_eq] at hc
          injection h with h
          simp only [Prod.mk.injEq] at h
          obtain ⟨rfl, rfl, rfl⟩ := h
          exact ⟨i, z, hu, hi, hz, hc.1, rfl, rfl, hc.2⟩
        · cases h
      · cases h
    · cases h
  · cases h
theorem run_lit {P : Program} {t e sz by_ : Nat} (h : elemInfo P t = some (e, sz, by_)) {parts : Array (Nat × Value)} {us : List Value} (hp : parts.toList = (us.zipIdx 0).map fun x => (x.2, x.1)) (hu : ∀ u ∈ us, u.cells.size = sz) (hn : us.length * sz ≤ 16777216) (h0 : us.length ≠ 0) :
    (Instr.buildSlice t us.length parts).run P w = .ok (.slice (some ⟨w.heap.size, 0, none⟩) us.length us.length) (w.alloc (.cells (cellsOf us).toArray e)) := by
  obtain ⟨i, z, hut, hi, hz, hzs, rfl, hby, h0'⟩ := elemInfo_inv h
  refine run_buildSlice w t e us.length parts _ i z hut hi hz (by omega) (by intro e; rcases Nat.mul_eq_zero.1 e with e | e; exact h0 e; omega) ?_
  rw [hp]
  exact Great.fill_whole h0' us _ hu (by rw [Array.size_map, Array.size_range])
theorem sl_news {sz : Nat} (h0 : 0 < sz) {ys : List AV} {x : Value} (hx : TRel μ C w (.sl sz ys) x) : ∃ A c vs, x = .slice A ys.length c ∧ RelL C w ys vs ∧ (∀ u ∈ vs, u.cells.size = sz ∧ ∀ c ∈ u.cells.toList, c.oneCell' = true) ∧
    (ys ≠ [] → ∃ ad : Addr, A = some ad ∧ ∀ (j : Nat) u, (cellsOf vs)[j]? = some u → w.cell? (ad.add j) = some u) := by
  obtain ⟨A, c, rfl, hA, hne⟩ := hx.sl_inv
  by_cases e : ys = []
  · subst e
    exact ⟨A, c, [], rfl, RelL.nil _ _, by simp, fun h => absurd rfl h⟩
  · obtain ⟨b, off, us, rfl, hc, hr, hs, hw⟩ := hne e
    have hlen : ((List.range ys.length).map us).length = ys.length := by simp
    have hget : ∀ i, i < ys.length → ((List.range ys.length).map us)[i]? = some (us i) := by intro i hi; simp [hi]
    have hsz : ∀ u ∈ (List.range ys.length).map us, u.cells.size = sz ∧ ∀ c ∈ u.cells.toList, c.oneCell' = true := by
      intro u hu
      simp only [List.mem_map, List.mem_range] at hu
      obtain ⟨i, hi, rfl⟩ := hu
      exact hs i hi
    refine ⟨_, c, (List.range ys.length).map us, rfl, ⟨hlen.symm, fun i y u hy hu => ?_⟩, hsz, fun _ => ⟨⟨b, off, none⟩, rfl, fun j u hu => ?_⟩⟩
    · have hi : i < ys.length := (List.getElem?_eq_some_iff.1 hy).1
      rw [hget i hi] at hu
      injection hu with hu
      subst hu
      exact hr i y hy
    · have hj : j < ys.length * sz := by
        have := (List.getElem?_eq_some_iff.1 hu).1
        rwa [cellsOf_len (fun u hu => (hsz u hu).1), hlen] at this
      have hdiv : j / sz < ys.length := (Nat.div_lt_iff_lt_mul h0).2 hj
      have := Great.flat_get h0 ((List.range ys.length).map us) (fun u hu => (hsz u hu).1) j
      simp only [cellsOf] at hu
      rw [this, hget _ hdiv] at hu
      have h2 := (hw (j / sz) (j % sz) u hdiv (by simpa using hu)).2
      rw [Addr.add_mid]
      have he : j / sz * sz + j % sz = j := by rw [Nat.mul_comm]; exact Nat.div_add_mod j sz
      rwa [he] at h2
theorem InvAt.append (h : InvAt X μ C T O a w) {d i E sz by_ : Nat} (hd : d < X.nt) {xs ys : List AV} (hi : O i = some (.row E sz xs)) {t : TypeId} (ht : elemInfo X.P t = some (E, sz, by_)) {x : Value} (hx : TRel μ C w (.sl sz ys) x)
    (hb1 : (xs.length + ys.length) * by_ ≤ 140737488355328) (hb2 : xs.length + ys.length ≤ 140737488355328) (hip : i ≠ pinned) (ty : TypeId) :
    ∃ u w', (Builtin.append_ #[t, t] ty #[μ i, x]).run X.P w = .ok u w' ∧ InvAt X (updμ μ i u) C (setF (fun t => killF i (T t)) d (some (.own i))) (setF O i (some (.row E sz (xs ++ ys)))) (a.put (some d) u) w' := by
  obtain ⟨info, z, hut, hinf, hz, hzs, hsz, hby, h0⟩ := elemInfo_inv ht
  obtain ⟨A, c, vs, rfl, hrv, hv, hne⟩ := sl_news h0 hx
  obtain ⟨us, hru, hu, ho, hn⟩ := h.ob i _ hi
  have hlv : vs.length = ys.length := hrv.1.symm
  have hnews : (cellsOf vs).length = ys.length * sz := by rw [cellsOf_len (fun u hu => (hv u hu).1), hlv]
  have hn1 : ∀ u ∈ cellsOf vs, u.oneCell' = true := by
    intro u hu
    simp only [cellsOf, List.mem_flatMap] at hu
    obtain ⟨y, hy, hc⟩ := hu
    exact (hv y hy).2 u hc
  have hml : xs.length + ys.length ≤ maxLen := by simp only [maxLen]; omega
  -- the model's append
  have hrun : ∃ v' w', (Builtin.append_ #[t, t] ty #[μ i, .slice A ys.length c]).run X.P w = .ok v' w' ∧ w'.ownsRow 0 E sz v' (xs.length + ys.length) (cellsOf us ++ cellsOf vs) ∧ w.grownBy w' (μ i).ownBlock ∧ (v'.ownBlock = (μ i).ownBlock ∨ v'.ownBlock = some w.heap.size) := by
    cases A with
    | some ad =>
      obtain ⟨v', w', h1, h2, h3, _, h5⟩ := run_append_own_at (P := X.P) w 0 t ty E info z sz by_ hut hinf hz hsz hby hzs h0 (μ i) xs.length (cellsOf us) ho ad ys.length c (cellsOf vs) hnews
        (fun j u hu => by
          have hy : ys ≠ [] := by intro e; subst e; simp at hnews; rw [hnews] at hu; simp at hu
          obtain ⟨ad', he, hc⟩ := hne hy
          injection he with he
          subst he
          exact hc j u hu) hn1 hml hb1 (Nat.zero_le _)
      exact ⟨v', w', h1, h2, h3, h5⟩
    | none =>
      have hy : ys = [] := by
        by_cases e : ys = []
        · exact e
        · obtain ⟨ad, he, _⟩ := hne e; cases he
      subst hy
      have hvs : vs = [] := List.eq_nil_of_length_eq_zero hlv
      subst hvs
      refine ⟨μ i, w, ?_, by simpa [cellsOf] using ho, ⟨rfl, rfl, rfl, Nat.le_refl _, fun _ _ _ => rfl⟩, .inl rfl⟩
      rcases ho.2 with ⟨he, hx0⟩ | ⟨g, cap, cur, he, _, _, hnc, _⟩
      · rw [he]
        simp [Builtin.append_, run_underlying hut, sizeOf, typeInfo, hinf, Builtin.lenOf, Builtin.firstCells]
      · rw [he]
        simp [Builtin.append_, run_underlying hut, sizeOf, typeInfo, hinf, Builtin.lenOf, Builtin.firstCells, hnc, storeCells]
  obtain ⟨v', w', hr, how, hg, hat⟩ := hrun
  have hlt := (h.ob i _ hi).lt
  have hown : ∀ v : Value, (∃ A n c, v = .slice A n c) → v.ownBlock = mblk v := by
    rintro v ⟨A, n, c, rfl⟩
    cases A <;> rfl
  have hsli : ∃ A n c, μ i = .slice A n c := by
    rcases ho.2 with ⟨he, _⟩ | ⟨g, cap, cur, he, _⟩
    · exact ⟨_, _, _, he⟩
    · exact ⟨_, _, _, he⟩
  have hsl' : ∃ A n c, v' = .slice A n c := by
    rcases how.2 with ⟨he, _⟩ | ⟨g, cap, cur, he, _⟩
    · exact ⟨_, _, _, he⟩
    · exact ⟨_, _, _, he⟩
  rw [hown _ hsli] at hg hat
  rw [hown _ hsl'] at hat
  have hw : ∀ b o, C b o → w'.cell? ⟨b, o, none⟩ = w.cell? ⟨b, o, none⟩ := fun b o hc => cell_same (hg.block b (h.c_lt b o hc) fun e => (hlt b e.symm).2.2 o hc) o
  refine ⟨v', w', hr, h.obj hd hip (fun _ _ h => h) hw (fun b o hc => ⟨Nat.lt_of_lt_of_le (h.c_lt b o hc) hg.size, (h.cw b o hc).2⟩) ?_ ?_ (fun j e hj he g hgj => ?_) ⟨by simp [updμ], by simpa [updμ] using hsl'⟩⟩
  · exact ⟨hg.os.trans h.be.os, hg.tape.trans h.be.tape, hg.output.trans h.be.output, Nat.le_trans h.be.size hg.size, fun k hk =>
      (hg.block k (Nat.lt_of_lt_of_le (Nat.lt_of_not_le fun hle => hk (h.nw k hle)) h.be.size) fun e => hk (hlt k e.symm).1).trans (h.be.block k hk)⟩
  · refine ⟨us ++ vs, (hru.append hrv).mono (fun _ _ h => h) hw, fun u hu' => ?_, ?_, fun g hgv => ?_⟩
    · rcases List.mem_append.1 hu' with hu' | hu'
      · exact hu u hu'
      · exact hv u hu'
    · rw [List.length_append]
      simpa [cellsOf] using how
    · rcases hat with hat | hat
      · exact hn g (by rw [← hat, hgv])
      · rw [hat] at hgv
        injection hgv with hgv
        subst hgv
        exact ⟨h.nw _ h.be.size, fun o hc => Nat.lt_irrefl _ (h.c_lt _ o hc)⟩
  · have hlj := (h.ob j e he).lt g hgj
    have hne' : mblk (μ i) ≠ some g := by
      rcases h.ap i j _ e hi he (Ne.symm hj) with h1 | h1
      · rw [h1]; simp
      · rw [hgj] at h1; exact h1
    refine ⟨hg.block g hlj.2.1 fun e' => hne' e'.symm, fun _ h => h, ?_⟩
    rcases hat with hat | hat
    · rw [hat]; exact hne'
    · rw [hat]; simp only [ne_eq, Option.some.injEq]; omega
end
end Go.Proofs.YtgehlcgjchfibaaGreatDoor.F
namespace Go.Proofs.YtgehlcgjchfibaaGreatDoor.F
open Go Go.RowKit
section
variable {P : Program} {ow : List Nat} {o : Oper}
theorem inv_alloc {T : TypeId} {z : List AV} (h : compOp P ow o = some (.alloc T z)) : o.op = .alloc T ∧ zeroOf P T = some z := by
  unfold compOp at h
  repeat' split at h
  all_goals first | (cases h; done) | (exact (callI_no h rfl).elim) | (simp only [Option.map_eq_some_iff, reduceCtorEq, and_false, exists_false, false_and, Option.some.injEq] at h; done) | skip
  all_goals simp_all
  obtain ⟨h1, rfl⟩ := h
  exact h1
theorem inv_box {T : TypeId} {x : Opd} (h : compOp P ow o = some (.box T x)) : ∃ y n, o.op = .box T y ∧ compOpd y = some x ∧ aggOf P T = some (some n) := by
  unfold compOp at h
  repeat' split at h
  all_goals first | (cases h; done) | (exact (callI_no h rfl).elim) | (simp only [Option.map_eq_some_iff, reduceCtorEq, and_false, exists_false, false_and, Option.some.injEq] at h; done) | skip
  all_goals simp_all
theorem inv_st {n : Nat} {x y : Opd} (h : compOp P ow o = some (.st n x y)) : ∃ T x' y' m, o.op = .store T x' y' ∧ compOpd x' = some x ∧ compOpd y' = some y ∧ aggOf P T = some m ∧ szOf m = n := by
  unfold compOp at h
  repeat' split at h
  all_goals first | (cases h; done) | (exact (callI_no h rfl).elim) | (simp only [Option.map_eq_some_iff, reduceCtorEq, and_false, exists_false, false_and, Option.some.injEq] at h; done) | skip
  all_goals simp_all
  exact ⟨_, _, _, ⟨rfl, rfl, rfl⟩, ‹_›, ‹_›, _, ‹_›, h.1⟩
theorem inv_lit {q : Bool} {E sz : Nat} {xs : List Opd} (h : compOp P ow o = some (.lit q E sz xs)) : ∃ T ps by_, o.op = .buildSlice T xs.length ps ∧ elemInfo P T = some (E, sz, by_) ∧ litM 0 ps.toList = some xs ∧ xs.length * sz ≤ 16777216 ∧ xs.length ≠ 0 := by
  unfold compOp at h
  repeat' split at h
  all_goals first | (cases h; done) | (exact (callI_no h rfl).elim) | (simp only [Option.map_eq_some_iff, reduceCtorEq, and_false, exists_false, false_and, Option.some.injEq] at h; done) | skip
  all_goals simp_all
  all_goals exact ⟨_, _, ⟨rfl, rfl⟩, ⟨_, ‹_›⟩, ‹_›⟩
theorem inv_mk {E by_ : Nat} {z : AV} {n c : Opd} (h : compOp P ow o = some (.mk E by_ z n c)) : ∃ T n' c' i zv, o.op = .makeSlice T n' c' ∧ elemInfo P T = some (E, 1, by_) ∧ compOpd n' = some n ∧ compOpd c' = some c ∧ P.info? E = some i ∧ i.zero = some zv ∧ okCell z zv = true ∧ zv.oneCell' = true := by
  unfold compOp at h
  repeat' split at h
  all_goals first | (cases h; done) | (exact (callI_no h rfl).elim) | (simp only [Option.map_eq_some_iff, reduceCtorEq, and_false, exists_false, false_and, Option.some.injEq] at h; done) | skip
  all_goals
    rename_i ho _ _ _ e sz _ _ _ he hn hc hs _ _ _ _ i hi _ _ hz hok
    simp only [Option.some.injEq, IOp.mk.injEq] at h
    obtain ⟨rfl, rfl, rfl, rfl, rfl⟩ := h
    simp only [Bool.and_eq_true] at hok
    subst hs
    exact ⟨_, _, _, _, _, ho, he, hn, hc, hi, hz, hok.1, hok.2⟩
theorem inv_app {E sz by_ : Nat} {s x : Opd} (h : compOp P ow o = some (.app E sz by_ s x)) : ∃ T s' x', o.op = .call { callee := .builtin .append, args := #[s', x'], argTypes := #[T, T] } ∧ elemInfo P T = some (E, sz, by_) ∧ compOpd s' = some s ∧ compOpd x' = some x := by
  unfold compOp at h
  repeat' split at h
  all_goals first | (cases h; done) | (exact (callI_no h rfl).elim) | (simp only [Option.map_eq_some_iff, reduceCtorEq, and_false, exists_false, false_and, Option.some.injEq] at h; done) | skip
  all_goals
    simp only [Option.some.injEq, IOp.app.injEq] at h
    obtain ⟨rfl, rfl, rfl, rfl, rfl⟩ := h
    rename_i c ho _ hcal _ _ s' x' T' U' hargs htys htu _ _ _ e' sz' by' n' c' hel hs hx
    subst htu
    have h1 : c.args = #[s', x'] := by apply Array.ext'; simpa using hargs
    have h2 : c.argTypes = #[T', T'] := by apply Array.ext'; simpa using htys
    have h3 : c = { callee := .builtin .append, args := #[s', x'], argTypes := #[T', T'] } := by cases c; simp_all
    exact ⟨T', s', x', by rw [ho, h3], hel, hs, hx⟩
theorem inv_callm {f : FuncId} {x : Opd} {xs : List (Opd × Option Nat)} (h : compOp P ow o = some (.callm f x xs)) : ∃ c x' t ts xs', o.op = .call c ∧ c.callee = .value (.func f) ∧ okF P f = true ∧ c.args.toList = x' :: xs' ∧ c.argTypes.toList = t :: ts ∧ compOpd x' = some x ∧ argM P xs' ts = some xs := by
  unfold compOp at h
  repeat' split at h
  all_goals first | (cases h; done) | (simp only [Option.map_eq_some_iff, reduceCtorEq, and_false, exists_false, false_and, Option.some.injEq] at h; done) | skip
  all_goals
    rename_i c ho _ f' hcal hf
    obtain ⟨zs, harg, h⟩ := Option.map_eq_some_iff.1 h
    unfold callI at h
    split at h
    · split at h
      · rename_i y n ys
        simp only [IOp.callm.injEq] at h
        obtain ⟨rfl, rfl, rfl⟩ := h
        refine ⟨c, ?_⟩
        cases ha : c.args.toList with
        | nil => rw [ha] at harg; cases ht : c.argTypes.toList <;> rw [ht] at harg <;> simp [argM] at harg
        | cons x' xs' =>
          cases ht : c.argTypes.toList with
          | nil => rw [ha, ht] at harg; simp [argM] at harg
          | cons t ts =>
            rw [ha, ht] at harg
            simp only [argM] at harg
            split at harg
            · rename_i y' ys' hy hys
              simp only [Option.some.injEq, List.cons.injEq, Prod.mk.injEq] at harg
              obtain ⟨⟨rfl, _⟩, rfl⟩ := harg
              exact ⟨x', t, ts, xs', ho, hcal, hf, rfl, rfl, hy, hys⟩
            · cases harg
      · cases h
    · cases h
theorem inv_call {f : FuncId} {xs : List (Opd × Option Nat)} (h : compOp P ow o = some (.call f xs)) : ∃ c, o.op = .call c ∧ c.callee = .value (.func f) ∧ okF P f = true ∧ argM P c.args.toList c.argTypes.toList = some xs := by
  unfold compOp at h
  repeat' split at h
  all_goals first | (cases h; done) | (simp only [Option.map_eq_some_iff, reduceCtorEq, and_false, exists_false, false_and, Option.some.injEq] at h; done) | skip
  all_goals
    rename_i c ho _ f' hcal hf
    obtain ⟨zs, harg, h⟩ := Option.map_eq_some_iff.1 h
    unfold callI at h
    split at h
    · split at h
      · cases h
      · simp only [IOp.call.injEq] at h
        obtain ⟨rfl, rfl⟩ := h
        exact ⟨c, ho, hcal, hf, harg⟩
    · simp only [IOp.call.injEq] at h
      obtain ⟨rfl, rfl⟩ := h
      exact ⟨c, ho, hcal, hf, harg⟩
theorem inv_dcall {x : Opd} {xs : List (Opd × Option Nat)} (h : compOp P ow o = some (.dcall x xs)) : ∃ c x', o.op = .call c ∧ c.callee = .value x' ∧ compOpd x' = some x ∧ argM P c.args.toList c.argTypes.toList = some xs := by
  unfold compOp at h
  repeat' split at h
  all_goals first | (cases h; done) | (exact (callI_no h rfl).elim) | (simp only [Option.map_eq_some_iff, reduceCtorEq, and_false, exists_false, false_and, Option.some.injEq] at h; done) | skip
  all_goals simp_all
end
section
variable {X : Ctx} {s : St} {a : Act} {w : World}
theorem Inv.frz (h : Inv X s a w) (i : Nat) : Inv X (s.frz i) a w := by
  unfold St.frz
  split
  · rename_i E sz xs hi
    obtain ⟨μ, C, h⟩ := h
    obtain ⟨C', h'⟩ := h.freeze hi
    exact ⟨μ, C', h'⟩
  · exact h
theorem Inv.norm : ∀ (xs : List Opd) {s : St}, Inv X s a w → Inv X (s.norm xs) a w
  | [], s, h => h
  | .t n :: xs, s, h => by
    simp only [St.norm]
    split
    · exact (h.frz _).norm xs
    · exact h.norm xs
  | .c _ :: xs, s, h => by simp only [St.norm]; exact h.norm xs
  | .g _ :: xs, s, h => by simp only [St.norm]; exact h.norm xs
theorem wp_value {P : Program} {o : Oper} {K : Act → World → Prop} {Q : Exit → Act → World → Prop} {u : Value} {w' : World} (h : (execOp a.eval o).run P w = .ok (.value u) w') (hk : K (a.put o.dst u) w') : o.wp P a w K Q := by
  unfold Oper.wp
  rw [h]
  exact hk
theorem wp_unit {P : Program} {o : Oper} {K : Act → World → Prop} {Q : Exit → Act → World → Prop} {w' : World} (h : (execOp a.eval o).run P w = .ok .skip w') (hd : o.dst = none) (hk : K a w') : o.wp P a w K Q := by
  unfold Oper.wp
  rw [h, Oper.upon_skip, hd]
  exact hk
theorem arg_sound {Y : Env} {base : Nat → Prop} {μ : Nat → Value} {C : Nat → Nat → Prop} {rd : Bool} : ∀ (xs : List Operand) (ts : List TypeId) (ys : List (Opd × Option Nat)) (vs : List AV), argM Y.P xs ts = some ys → Know Y base μ C w s a rd (ys.map fun p => p.1) → argV Y.G s ys = some vs → RelL C w vs (xs.map a.eval)
  | [], [], ys, vs, h, hk, hv => by
    simp only [argM, Option.some.injEq] at h; subst h
    simp only [argV, Option.some.injEq] at hv; subst hv
    exact RelL.nil _ _
  | [], _ :: _, ys, vs, h, hk, hv => by simp [argM] at h
  | _ :: _, [], ys, vs, h, hk, hv => by simp [argM] at h
  | x :: xs, t :: ts, ys, vs, h, hk, hv => by
    simp only [argM] at h
    split at h
    · rename_i y ys' hy hys
      injection h with h; subst h
      simp only [argV] at hv
      split at hv
      · rename_i v vs' hv1 hv2
        injection hv with hv; subst hv
        obtain ⟨ho, hp⟩ := valP hv1
        have hrel := ((hk y (by simp) x hy v ho).1).rel (AV.vok_plain hp)
        refine RelL.cons ?_ (arg_sound xs ts ys' vs' hys (hk.sub fun z hz => by simp only [List.map_cons]; exact List.mem_cons_of_mem _ hz) hv2)
        split
        · have := (TRel.of_rel (μ := μ) hrel).nil_inv
          rw [this]
          exact .sl0 _ _ _ (by simp)
        · exact hrel
      · cases hv
    · cases h
theorem wp_call {P : Program} {o : Oper} {c : Call} {f : FuncId} {K : Act → World → Prop} {Q : Exit → Act → World → Prop} {x : Operand} (ho : o.op = .call c) (hc : c.callee = .value x) (hx : a.eval x = .func (.func f) #[] #[]) (hf : okF P f = true)
    (h : Calls P f (c.args.map a.eval) w fun e w' => ∃ u, e = .returned u ∧ K (a.put o.dst u) w') : o.wp P a w K Q := by
  unfold okF at hf
  split at hf
  · rename_i fn hfn
    simp only [Bool.and_eq_true, bne_iff_ne, ne_eq] at hf
    have hrun : (execOp a.eval o).run P w = .ok (.enter f (c.args.map a.eval)) w := by
      unfold execOp
      have h2 : (fn.name == "runtime.NumGoroutine") = false := by simpa using hf.2
      have h3 : fn.body.isNone = false := by cases hb : fn.body with | none => rw [hb] at hf; simp at hf | some b => rfl
      simp only [ho, resolve, hc, hx, Deferred.ofValue, invoke, callFunc, Sem.run_bind, Sem.run_pure, Result.andThen_ok, run_program, hfn, h2, h3, Bool.false_eq_true, if_false]
      simp
    unfold Oper.wp
    rw [hrun, Oper.upon_enter]
    refine h.mono fun e w' he => ?_
    obtain ⟨u, rfl, hk⟩ := he
    exact hk
  · cases hf
theorem InvAt.call {μ : Nat → Value} {C : Nat → Nat → Prop} {T : Nat → Option AV} {O : Nat → Option Ob} (h : InvAt X μ C T O a w) {o : Oper} {c : Call} {f : FuncId} {x : Operand} (ho : o.op = .call c) (hc : c.callee = .value x) (hx : a.eval x = .func (.func f) #[] #[]) (hf : okF X.P f = true)
    {vs : List AV} {r : AV} (hcon : Con X.P X.G f vs r) (hr : RelL C w vs (c.args.toList.map a.eval)) (hp : r.plain = true) (hd : ∀ d, o.dst = some d → d < X.nt) {Q : Exit → Act → World → Prop} :
    o.wp X.P a w (fun a' w' => ∃ C', InvAt X μ C' (putF T o.dst r) O a' w') Q := by
  refine wp_call ho hc hx hf ((hcon w C (c.args.map a.eval) h.c_lt h.gr (by simpa using hr)).mono fun e w' he => ?_)
  obtain ⟨u, C', rfl, hb, h1, h2, h3⟩ := he
  exact ⟨u, rfl, C', (h.grow hb h1 h2).putD hd (.of_rel h3)⟩
theorem InvAt.updC {μ : Nat → Value} {C C' : Nat → Nat → Prop} {T : Nat → Option AV} {O : Nat → Option Ob} {w' : World} (h : InvAt X μ C T O a w) {i : Nat} {b b' : Ob} (hi : O i = some b) (hC : ∀ b o, C b o → C' b o) (hC' : ∀ b o, C' b o → b < w'.heap.size ∧ (C b o ∨ w.heap.size ≤ b))
    (ho : ObRel C' w' X.ow b' (μ i)) (hk : ∀ k, k < w.heap.size → mblk (μ i) ≠ some k → w'.heap[k]? = w.heap[k]?) (hz : w.heap.size ≤ w'.heap.size) (hos : w'.os = w.os ∧ w'.tape = w.tape ∧ w'.output = w.output) :
    InvAt X μ C' T (setF O i (some b')) a w' := by
  have hlt := (h.ob i b hi).lt
  have hs := h.be.size
  have hw : ∀ b o, C b o → w'.cell? ⟨b, o, none⟩ = w.cell? ⟨b, o, none⟩ := fun b o hc => cell_same (hk b (h.cw b o hc).1 fun e => (hlt b e).2.2 o hc) o
  refine ⟨fun t v ht => ?_, fun j c hj => ?_, fun j k c d hj hk' hne => ?_, fun b o hc => ?_, fun b o hc => hC b o (h.c0 b o hc), h.gr.mono hC hw, ?_, h.sz, h.df, h.nw, h.pn, h.nb⟩
  · obtain ⟨u, h1, h2⟩ := h.tm t v ht
    exact ⟨u, h1, h2.mono hC hw⟩
  · simp only [setF] at hj
    split at hj
    · rename_i e
      injection hj with hj; subst hj
      subst e
      exact ho
    · rename_i e
      have hob := h.ob j c hj
      refine hob.kept hC hw fun g hg => ?_
      have hlj := hob.lt g hg
      refine ⟨hk g hlj.2.1 fun he => ?_, fun o hc => ((hC' g o hc).2).resolve_right (by omega)⟩
      rcases h.ap i j b c hi hj e with h1 | h1
      · rw [h1] at he; cases he
      · exact h1 (he.trans hg.symm)
  · have look_upd : ∀ j c, setF O i (some b') j = some c → ∃ c', O j = some c' := by
      intro j c hj
      simp only [setF] at hj
      split at hj
      · rename_i e
        exact ⟨b, e ▸ hi⟩
      · exact ⟨c, hj⟩
    obtain ⟨c', hc'⟩ := look_upd j c hj
    obtain ⟨d', hd'⟩ := look_upd k d hk'
    exact h.ap j k c' d' hc' hd' hne
  · obtain ⟨h1, h2⟩ := hC' b o hc
    refine ⟨h1, ?_⟩
    rcases h2 with h2 | h2
    · exact (h.cw b o h2).2
    · exact .inr (h.nw b (by omega))
  · refine ⟨hos.1.trans h.be.os, hos.2.1.trans h.be.tape, hos.2.2.trans h.be.output, Nat.le_trans h.be.size hz, fun k hk1 => ?_⟩
    have hlt' : k < w.heap.size := Nat.lt_of_lt_of_le (Nat.lt_of_not_le fun hle => hk1 (h.nw k hle)) hs
    exact (hk k hlt' fun e => hk1 (hlt k e).1).trans (h.be.block k hk1)
theorem InvAt.callO {μ : Nat → Value} {C : Nat → Nat → Prop} {T : Nat → Option AV} {O : Nat → Option Ob} (h : InvAt X μ C T O a w) {o : Oper} {c : Call} {f : FuncId} {x : Operand} (ho : o.op = .call c) (hc : c.callee = .value x) (hx : a.eval x = .func (.func f) #[] #[]) (hf : okF X.P f = true)
    {vs : List AV} {E sz : Nat} {xs : List AV} {d : Nat} (hcon : ConO X.P X.G f vs E sz xs) (hr : RelL C w vs (c.args.toList.map a.eval)) (hdst : o.dst = some d) (hd : d < X.nt) {Q : Exit → Act → World → Prop} :
    o.wp X.P a w (fun a' w' => ∃ μ' C', InvAt X μ' C' (setF (fun t => killF d (T t)) d (some (.own d))) (setF O d (some (.row E sz xs))) a' w') Q := by
  refine wp_call ho hc hx hf ((hcon w C (c.args.map a.eval) h.c_lt h.gr (by simpa using hr)).mono fun e w' he => ?_)
  obtain ⟨u, C', rfl, hb, h1, h2, h3⟩ := he
  have hg := h.grow hb h1 h2
  refine ⟨u, rfl, updμ μ d u, C', ?_⟩
  rw [hdst]
  obtain ⟨us, hru, hu, hro, hn⟩ := h3
  have hsl : ∃ A n c, u = .slice A n c := by
    rcases hro.2 with ⟨he, _⟩ | ⟨g, cap, cur, he, _⟩
    · exact ⟨_, _, _, he⟩
    · exact ⟨_, _, _, he⟩
  have hob : ObRel C' w' X.ow (.row E sz xs) u := ⟨us, hru, hu, hro, fun g hg' => ⟨h.nw g (Nat.le_trans h.be.size (hn g hg').1), (hn g hg').2⟩⟩
  refine hg.obj hd (h.npin hd) (fun _ _ h => h) (fun _ _ _ => rfl) hg.cw hg.be hob (fun j b hj hb' g hgj => ⟨rfl, fun _ h => h, fun e => ?_⟩) ⟨by simp [updμ], by simpa [updμ] using hsl⟩
  have := (hn g e).1
  have := ((h.ob j b hb').lt g hgj).2.1
  omega
theorem InvAt.callM {μ : Nat → Value} {C : Nat → Nat → Prop} {T : Nat → Option AV} {O : Nat → Option Ob} (h : InvAt X μ C T O a w) {o : Oper} {c : Call} {f : FuncId} {x : Operand} (ho : o.op = .call c) (hc : c.callee = .value x) (hx : a.eval x = .func (.func f) #[] #[]) (hf : okF X.P f = true)
    {vs : List AV} {E sz i : Nat} {xs xs' : List AV} {y : Operand} {ys : List Operand} (hcon : ConM X.P X.G f E sz xs vs xs') (hi : O i = some (.row E sz xs)) (ha : c.args.toList = y :: ys) (hy : a.eval y = μ i) (hr : RelL C w vs (ys.map a.eval)) (hd : ∀ d, o.dst = some d → d < X.nt) {Q : Exit → Act → World → Prop} :
    o.wp X.P a w (fun a' w' => ∃ C', InvAt X μ C' (putF T o.dst (.tup [])) (setF O i (some (.row E sz xs'))) a' w') Q := by
  have hargs : c.args.map a.eval = (μ i :: ys.map a.eval).toArray := by
    apply Array.ext'
    simp [ha, hy]
  refine wp_call ho hc hx hf ?_
  rw [hargs]
  refine (hcon w C X.ow (μ i) (ys.map a.eval) h.c_lt h.gr (fun k hk => h.nw k (Nat.le_trans h.be.size hk)) (h.ob i _ hi) hr).mono fun e w' he => ?_
  obtain ⟨C', rfl, h1, h2, h3, h4, h5, h6, h7, h8⟩ := he
  exact ⟨_, rfl, C', (h.updC hi h6 h7 h8 h5 h4 ⟨h1, h2, h3⟩).putD hd (.of_rel (.tup [] [] rfl (by simp)))⟩
end
end Go.Proofs.YtgehlcgjchfibaaGreatDoor.F
namespace Go.Proofs.YtgehlcgjchfibaaGreatDoor.F
open Go Go.RowKit
section
variable {X : Ctx} {s : St} {a : Act} {w : World}
theorem Inv.of_new {s : St} {d i : Nat} {b : Ob} {v : AV} {μ : Nat → Value} {C : Nat → Nat → Prop} (h : InvAt X μ C (setF (fun t => killF i (look s.t t)) d (some v)) (setF (look s.o) i (some b)) a w) : Inv X (s.new d i b v) a w :=
  ⟨μ, C, by rw [(look_new s d i b v).1, (look_new s d i b v).2]; exact h⟩
theorem Inv.of_putD {s : St} {d : Option Nat} {v : AV} {μ : Nat → Value} {C : Nat → Nat → Prop} (h : InvAt X μ C (putF (look s.t) d v) (look s.o) a w) : Inv X (s.putD d v) a w :=
  ⟨μ, C, by rw [(look_putD s d v).1, (look_putD s d v).2]; exact h⟩
theorem lit_rel {C : Nat → Nat → Prop} {w : World} {vs : List AV} {us : List Value} {e sz : Nat} (hC : ∀ b o, C b o → b < w.heap.size) (hr : RelL C w vs us) (hu : ∀ u ∈ us, u.cells.size = sz ∧ ∀ c ∈ u.cells.toList, c.oneCell' = true) :
    Rel (fun b o => C b o ∨ b = w.heap.size) (w.alloc (.cells (cellsOf us).toArray e)) (.sl sz vs) (.slice (some ⟨w.heap.size, 0, none⟩) us.length us.length) := by
  have hb := alloc_heap w (.cells (cellsOf us).toArray e)
  have hl : vs.length = us.length := hr.1
  have := Rel.sl (C := fun b o => C b o ∨ b = w.heap.size) (w := w.alloc (.cells (cellsOf us).toArray e)) sz vs w.heap.size 0 us.length (fun k => us.getD k undef) (by omega) (fun k x hx => ?_) (fun k hk => ?_) (fun k j c hk hj => ?_)
  · rwa [hl] at this
  · have hk : k < us.length := by rw [← hl]; exact (List.getElem?_eq_some_iff.1 hx).1
    simp only [List.getD_eq_getElem?_getD, List.getElem?_eq_getElem hk, Option.getD_some]
    exact (hr.2 k x _ hx (List.getElem?_eq_getElem hk)).mono (fun _ _ h => .inl h) fun b o hc => cell_same (hb.block b (hC b o hc)) o
  · have hk' : k < us.length := by omega
    simp only [List.getD_eq_getElem?_getD, List.getElem?_eq_getElem hk', Option.getD_some]
    exact hu _ (List.getElem_mem hk')
  · have hk' : k < us.length := by omega
    simp only [List.getD_eq_getElem?_getD, List.getElem?_eq_getElem hk', Option.getD_some] at hj
    refine ⟨.inr rfl, ?_⟩
    have hf := flat_getElem us (fun u h => (hu u h).1) k us[k] j c (List.getElem?_eq_getElem hk') hj
    rw [World.cell?_alloc_new]
    simpa using hf
theorem E1_sound {ow : List Nat} {o : Oper} {iop : IOper} (hnr : iop.op.isRaw = false) (hc : compOp X.P ow o = some iop.op) (hdd : iop.d = o.dst) (hd : ∀ d, o.dst = some d → d < X.nt) {K : St → Prop} (he : E1 ⟨X.P, X.G⟩ false iop K s) (hi : Inv X s a w) {Q : Exit → Act → World → Prop} :
    o.wp X.P a w (fun a' w' => ∃ s', Inv X s' a' w' ∧ K s') Q := by
  obtain ⟨d, op, g, hnt⟩ := iop
  simp only at hc hdd
  subst hdd
  simp only [E1, Bool.false_eq_true, if_false] at he
  have hi' := hi.norm op.vals
  generalize s.norm op.vals = s' at he hi'
  obtain ⟨μ, C, h⟩ := hi'
  have hpure : ∀ (p : Prop) (v : AV), pureV X.G s' op = some (p, v) → (p ∧ K (s'.putD o.dst v)) → o.wp X.P a w (fun a' w' => ∃ s', Inv X s' a' w' ∧ K s') Q := by
    intro p v hp ⟨hq, hk⟩
    obtain ⟨u, hr, hrel⟩ := pure_sound hc (h.know op.rd op.opds) hp hq
    exact wp_value hr ⟨_, .of_putD (h.putD hd hrel), hk⟩
  cases op
  case raw ro => cases hnr
  case alloc T z =>
    obtain ⟨ho, hz⟩ := inv_alloc hc
    obtain ⟨fs, i, us, hu, hinf, hzv, hok, hsz⟩ := zeroOf_inv hz
    simp only at he
    split at he
    · rename_i d hdst
      obtain ⟨hr, h1⟩ := okCells_rel (C := C) (w := w) hok
      refine wp_value (u := .pointer (some ⟨w.heap.size, 0, none⟩)) (w' := w.alloc (.cells us.toArray T)) ?_ ⟨_, ?_, he⟩
      · unfold execOp
        simp [ho, Instr.alloc, zeroValue, run_typeInfo w hinf, hzv, newVar, newRow, Value.cells]
      · rw [hdst]
        exact .of_new (h.newBox (hd d hdst) hr h1)
    · exact he.elim
  case box T x =>
    obtain ⟨y, n, ho, hy, ht⟩ := inv_box hc
    simp only at he
    split at he
    · rename_i d cs hdst hv
      obtain ⟨hv1, hv2⟩ := valP (X := ⟨X.P, X.G⟩) hv
      obtain ⟨us, hu, hr, h1⟩ := ((h.know false [x]).at (by simp) hy hv1).agg_inv
      refine wp_value (u := .pointer (some ⟨w.heap.size, 0, none⟩)) (w' := w.alloc (.cells us.toArray T)) ?_ ⟨_, ?_, he⟩
      · unfold execOp
        simp [ho, hu, Instr.box, newVar, newRow, Value.cells]
      · rw [hdst]
        exact .of_new (h.newBox (hd d hdst) hr h1)
    · exact he.elim
  case st n x y =>
    obtain ⟨T, x', y', m, ho, hx, hy, ht, hm⟩ := inv_st hc
    obtain ⟨info, hinf, hsz, h0⟩ := aggOf_size ht
    rw [hm] at hsz
    simp only at he
    split at he
    · rename_i i off v hxv hyv
      split at he
      · rename_i Ty cs hob
        obtain ⟨⟨hdn, hlen, hle⟩, hk⟩ := he
        obtain ⟨hv1, hv2⟩ := valP (X := ⟨X.P, X.G⟩) hyv
        have hrel := ((h.know false [y]).at (by simp) hy hv1).rel (AV.vok_plain hv2)
        obtain ⟨us, hu, hr, h1⟩ := hrel.vok hv2
        obtain ⟨w', hrun, hinv⟩ := h.storeBox hob ((h.know false [x]).at (by simp) hx hxv) hr h1 (by omega) hinf (by omega) hu
        refine wp_unit ?_ hdn ⟨_, ⟨μ, C, hinv⟩, hk⟩
        unfold execOp
        simp [ho, hrun]
      · exact he.elim
    · rename_i i j v hxv hyv
      split at he
      · rename_i E sz xs hob
        obtain ⟨⟨hdn, rfl, rfl, hj, hone⟩, hk⟩ := he
        obtain ⟨hv1, hv2⟩ := valP (X := ⟨X.P, X.G⟩) hyv
        have hrel := ((h.know false [y]).at (by simp) hy hv1).rel (AV.vok_plain hv2)
        obtain ⟨w', hrun, hinv⟩ := h.storeElt hob ((h.know false [x]).at (by simp) hx hxv) hrel hone hj hinf hsz
        refine wp_unit ?_ hdn ⟨_, ⟨μ, C, hinv⟩, hk⟩
        unfold execOp
        simp [ho, hrun]
      · exact he.elim
    · exact he.elim
  case lit q E sz ps =>
    obtain ⟨T, qs, by_, ho, hel, hlit, hn, hn0⟩ := inv_lit hc
    simp only at he
    split at he
    · rename_i d vs hdst hvs
      obtain ⟨us, hus, hr, hu⟩ := lit_inv (Y := ⟨X.P, X.G⟩) qs.toList 0 sz ps vs hlit (h.know false ps) hvs
      have hlu : us.length = ps.length := by
        have h1 : vs.length = us.length := hr.1
        have : ∀ (ps : List Opd) (vs : List AV), valsV X.G s' sz ps = some vs → ps.length = vs.length := by
          intro ps
          induction ps with
          | nil => intro vs h; simp [valsV] at h; subst h; rfl
          | cons p ps ih =>
            intro vs h
            simp only [valsV] at h
            split at h
            · split at h
              · injection h with h; subst h; simp [ih _ (by assumption)]
              · cases h
            · cases h
        have := this ps vs hvs
        omega
      have hrun : (execOp a.eval o).run X.P w = .ok (.value (.slice (some ⟨w.heap.size, 0, none⟩) us.length us.length)) (w.alloc (.cells (cellsOf us).toArray E)) := by
        unfold execOp
        have := run_lit (w := w) hel (parts := qs.map fun p => (p.1, a.eval p.2)) (us := us) (by rw [Array.toList_map]; exact hus) (fun u h => (hu u h).1) (by rw [hlu]; exact hn) (by rw [hlu]; exact hn0)
        rw [hlu] at this
        simp only [ho, Sem.run_bind, this, Result.andThen_ok, Sem.run_pure, hlu]
      split at he
      · refine wp_value hrun ⟨_, ?_, he.2⟩
        rw [hdst]
        have hlv : vs.length = us.length := hr.1
        have hcl : (cellsOf us).length = us.length * sz := cellsOf_len fun u h => (hu u h).1
        have hml : us.length ≤ maxLen := by
          obtain ⟨_, _, _, _, _, _, _, _, h0⟩ := elemInfo_inv hel
          have h9 : us.length * 1 ≤ us.length * sz := Nat.mul_le_mul_left _ h0
          have h10 : us.length * sz ≤ 16777216 := by rw [hlu]; exact hn
          simp only [maxLen]
          omega
        have := h.newRow (d := d) (hd d hdst) (E := E) (sz := sz) (cap := us.length) (cur := (cellsOf us).toArray) hr hu (by omega) hml (by simp [hcl]) (by rw [List.toList_toArray, List.take_of_length_le]; rw [hcl, hlv]; exact Nat.le_refl _) (by rw [hcl, hlv])
        rw [hlv] at this
        exact .of_new this
      · refine wp_value hrun ⟨s'.put d (.sl sz vs), ?_, he⟩
        rw [hdst]
        refine ⟨μ, fun b o => C b o ∨ b = w.heap.size, ?_⟩
        have hb := alloc_heap w (.cells (cellsOf us).toArray E)
        exact (h.grow hb (C' := fun b o => C b o ∨ b = w.heap.size) (fun _ _ h => .inl h) (fun b o hc => by
          rcases hc with hc | hc
          · exact ⟨Nat.lt_of_lt_of_le (h.c_lt b o hc) hb.size, .inl hc⟩
          · exact ⟨by simp [hc], .inr (by omega)⟩)).put (hd d hdst) (.of_rel (lit_rel h.c_lt hr hu))
    · exact he.elim
  case mk E by_ z n c =>
    obtain ⟨T, n', c', i, zv, ho, hel, hn, hcc, hinf, hzv, hok, h1⟩ := inv_mk hc
    obtain ⟨i', z', hut, hinf', hz', hzs, hsz, hby, _⟩ := elemInfo_inv hel
    rw [hinf] at hinf'
    injection hinf' with hinf'
    subst hinf'
    simp only at he
    split at he
    · rename_i d nn cc hdst hnv hcv
      obtain ⟨⟨_, h0, hle, hb, hm⟩, hk⟩ := he
      have hn1 := ((h.know false [n]).at (by simp) hn hnv).int_inv
      have hc1 := ((h.know false [c]).at (by simp) hcc hcv).int_inv
      have hrun := run_make (P := X.P) w T E i zv hut hinf hzv .i64 .i64 nn cc h0 hle (by rw [hby, Int.mul_comm]; exact hb) (by omega)
      rw [hsz, Nat.mul_one] at hrun
      obtain ⟨hzr, _⟩ := okCell_rel (C := C) (w := w) hok
      have hzc : zv.cells = #[zv] := by revert h1; cases zv <;> simp [Value.oneCell', Value.cells]
      have hmc : madeCells zv.cells cc.toNat = (List.replicate cc.toNat zv).toArray := by
        apply Array.ext'
        apply List.ext_getElem
        · simp [madeCells]
        · intro k h2 h3
          simp [madeCells, hzc, Nat.mod_one]
      rw [hmc] at hrun
      refine wp_value (u := .slice (some ⟨w.heap.size, 0, none⟩) nn.toNat cc.toNat) (w' := w.alloc (.cells (List.replicate cc.toNat zv).toArray E)) ?_ ⟨_, ?_, hk⟩
      · unfold execOp
        simp [ho, hn1, hc1, hrun]
      · rw [hdst]
        have hone : ∀ k, cellsOf (List.replicate k zv) = List.replicate k zv := fun k => cellsOf_one fun u hu => by rw [(List.mem_replicate.1 hu).2]; exact hzc
        have := h.newRow (d := d) (hd d hdst) (E := E) (sz := 1) (cap := cc.toNat) (cs := List.replicate nn.toNat z) (us := List.replicate nn.toNat zv) (cur := (List.replicate cc.toNat zv).toArray)
          ⟨by simp, fun k x u hx hu => by
            obtain ⟨_, hx⟩ := List.getElem?_eq_some_iff.1 hx
            obtain ⟨_, hu⟩ := List.getElem?_eq_some_iff.1 hu
            simp at hx hu
            subst hx hu
            exact hzr⟩ (fun u hu => by rw [(List.mem_replicate.1 hu).2, hzc]; simp [h1]) (by simp; omega) (by simp only [maxLen]; omega) (by simp) (by simp only [hone, List.length_replicate, Nat.mul_one, List.toList_toArray, List.take_replicate]; congr 1; omega) (by simp [hone])
        simp only [List.length_replicate] at this
        exact .of_new this
    · exact he.elim
  case app E sz by_ x y =>
    obtain ⟨T, x', y', ho, hel, hx, hy⟩ := inv_app hc
    simp only at he
    have hrunT : ∀ (u : Value) (w' : World), (Builtin.append_ #[T, T] o.type #[a.eval x', a.eval y']).run X.P w = .ok u w' → (execOp a.eval o).run X.P w = .ok (.value u) w' := by
      intro u w' hr
      unfold execOp
      simp only [ho, resolve, invoke, builtin, Sem.run_bind, Sem.run_pure, Result.andThen_ok, List.map_toArray, List.map_cons, List.map_nil, hr]
    split at he
    · rename_i d i sz' ys hdst hxv hyv
      split at he
      · rename_i E' sz'' xs hob
        obtain ⟨⟨_, hip, rfl, rfl, rfl, hb1, hb2⟩, hk⟩ := he
        obtain ⟨hv1, _⟩ := valP (X := ⟨X.P, X.G⟩) hyv
        have h1 : a.eval x' = μ i := ((h.know false [x]).at (by simp) hx hxv).1
        obtain ⟨u, w', hr, hinv⟩ := h.append (hd d hdst) hob hel ((h.know false [y]).at (by simp) hy hv1) hb1 hb2 hip o.type
        rw [← h1] at hr
        refine wp_value (hrunT u w' hr) ⟨_, ?_, hk⟩
        rw [hdst]
        exact .of_new hinv
      · exact he.elim
    · rename_i d sz' ys hdst hxv hyv
      obtain ⟨⟨_, rfl, hb1, hb2⟩, hk⟩ := he
      obtain ⟨hv1, _⟩ := valP (X := ⟨X.P, X.G⟩) hyv
      -- the nil slice, as a row of the call's own under the number d
      have h1 : a.eval x' = .slice none 0 0 := ((h.know false [x]).at (by simp) hx hxv).nil_inv
      have hrel := (h.know false [y]).at (by simp) hy hv1
      have h2 : InvAt X (updμ μ d (.slice none 0 0)) C (fun t => killF d (look s'.t t)) (setF (look s'.o) d (some (.row E sz' []))) a w := by
        have h3 := h.obj (d := d) (i := d) (b := .row E sz' []) (m := .slice none 0 0) (C' := C) (w' := w) (hd d hdst) (h.npin (hd d hdst)) (fun _ _ h => h) (fun _ _ _ => rfl) h.cw h.be
          ⟨[], RelL.nil _ _, by simp, ⟨by simp [cellsOf], .inl ⟨rfl, rfl⟩⟩, fun g hg => by simp [mblk] at hg⟩ (fun j c _ _ g _ => ⟨rfl, fun _ h => h, by simp [mblk]⟩) (v := .own d) ⟨by simp [updμ], none, 0, 0, by simp [updμ]⟩
        refine ⟨fun t v ht => ?_, h3.ob, h3.ap, h3.cw, h3.c0, h3.gr, h3.be, h.sz, h.df, h.nw, h3.pn, h.nb⟩
        cases hT : look s'.t t with
        | none => rw [hT] at ht; cases ht
        | some q =>
          rw [hT] at ht
          simp only [killF, Option.some.injEq] at ht
          obtain ⟨u, hu1, hu2⟩ := h.tm t q hT
          split at ht
          · rename_i hn
            subst ht
            exact ⟨u, hu1, hu2.updμ hn⟩
          · subst ht
            exact ⟨u, hu1, .top u⟩
      have hrel2 : TRel (updμ μ d (.slice none 0 0)) C w (.sl sz' ys) (a.eval y') := .of_rel (hrel.rel rfl)
      obtain ⟨u, w', hr, hinv⟩ := h2.append (d := d) (i := d) (xs := []) (hd d hdst) (by simp [setF]) hel hrel2 (by simpa using hb1) (by simpa using hb2) (h.npin (hd d hdst)) o.type
      rw [show updμ μ d (.slice none 0 0) d = a.eval x' by rw [h1]; simp [updμ]] at hr
      refine wp_value (hrunT u w' hr) ⟨_, ?_, hk⟩
      rw [hdst]
      refine .of_new (μ := updμ (updμ μ d (.slice none 0 0)) d u) (C := C) ?_
      have e1 : (fun t => killF d (killF d (look s'.t t))) = fun t => killF d (look s'.t t) := by
        funext t
        cases look s'.t t with
        | none => rfl
        | some q =>
          simp only [killF]
          by_cases hn : q.nid d = true
          · simp [hn]
          · rw [if_neg hn]; rfl
      have e2 : setF (setF (look s'.o) d (some (.row E sz' []))) d (some (.row E sz' ([] ++ ys))) = setF (look s'.o) d (some (.row E sz' ys)) := by
        funext t
        simp only [setF, List.nil_append]
        split <;> rfl
      rw [e1, e2] at hinv
      exact hinv
    · exact he.elim
  case call f xs =>
    obtain ⟨c, ho, hcal, hf, harg⟩ := inv_call hc
    simp only at he
    split at he
    · rename_i vs hvs
      have hrl := arg_sound (Y := ⟨X.P, X.G⟩) _ _ xs vs harg (h.know false _) hvs
      rcases he with ⟨r, hp, hcon, hk⟩ | ⟨E, sz, ys, t, hdst, hcon, hk⟩
      · refine Oper.wp_mono (fun a' w' h' => ?_) (h.call ho hcal (by rfl) hf hcon hrl hp hd)
        obtain ⟨C', h'⟩ := h'
        exact ⟨_, .of_putD h', hk⟩
      · refine Oper.wp_mono (fun a' w' h' => ?_) (h.callO ho hcal (by rfl) hf hcon hrl hdst (hd t hdst))
        obtain ⟨μ', C', h'⟩ := h'
        exact ⟨_, .of_new h', hk⟩
    · exact he.elim
  case dcall x xs =>
    obtain ⟨c, x', ho, hcal, hx, harg⟩ := inv_dcall hc
    simp only at he
    split at he
    · rename_i f vs hxv hvs
      obtain ⟨hf, he⟩ := he
      have hrl := arg_sound (Y := ⟨X.P, X.G⟩) _ _ xs vs harg (h.know false _) hvs
      rcases he with ⟨r, hp, hcon, hk⟩ | ⟨E, sz, ys, t, hdst, hcon, hk⟩
      · refine Oper.wp_mono (fun a' w' h' => ?_) (h.call ho hcal ((h.know false [x]).at (by simp) hx hxv).fn_inv hf hcon hrl hp hd)
        obtain ⟨C', h'⟩ := h'
        exact ⟨_, .of_putD h', hk⟩
      · refine Oper.wp_mono (fun a' w' h' => ?_) (h.callO ho hcal ((h.know false [x]).at (by simp) hx hxv).fn_inv hf hcon hrl hdst (hd t hdst))
        obtain ⟨μ', C', h'⟩ := h'
        exact ⟨_, .of_new h', hk⟩
    · exact he.elim
  case callm f x xs =>
    obtain ⟨c, x', t, ts, xs', ho, hcal, hf, ha, ht, hx, harg⟩ := inv_callm hc
    simp only at he
    split at he
    · rename_i i vs hxv hvs
      split at he
      · rename_i E sz ys hob
        obtain ⟨_, ys', hcon, hk⟩ := he
        have hrl := arg_sound (Y := ⟨X.P, X.G⟩) _ _ xs vs harg (h.know false _) hvs
        refine Oper.wp_mono (fun a' w' h' => ?_) (h.callM ho hcal (by rfl) hf hcon hob ha ((h.know false [x]).at (by simp) hx hxv).1 hrl hd)
        obtain ⟨C', h'⟩ := h'
        exact ⟨_, .of_putD (s := s'.upd i (.row E sz ys')) (C := C') (μ := μ) h', hk⟩
      · exact he.elim
    · exact he.elim
  all_goals
    simp only at he
    split at he
    · rename_i p v hp
      exact hpure p v hp he
    · exact he.elim
end
end Go.Proofs.YtgehlcgjchfibaaGreatDoor.F
namespace Go.Proofs.YtgehlcgjchfibaaGreatDoor.F
open Go Go.RowKit
def dstOk (nt : Nat) : Option Nat → Bool
  | some d => decide (d < nt)
  | none => true
def hintAt : List (Nat × Hint) → Nat → Hint
  | [], _ => .any
  | p :: l, k => if p.1 = k then p.2 else hintAt l k
def guardM (ops : Array Oper) : Option (Nat × Bool) → Option (Option (Nat × Bool))
  | none => some none
  | some (j, want) => match (ops[j]?).bind (·.dst) with
    | some t => some (some (t, want))
    | none => none
def rawOf (ow : List Nat) (o : Oper) : Bool := match o.op with
  | .call c => match c.callee with
    | .value (.func f) => ow.contains (2000000 + f)
    | _ => false
  | _ => false
def compR (P : Program) (ow : List Nat) (o : Oper) : IOp := match compOp P ow o with
  | some op => if op.isRaw || rawOf ow o then .raw o else op
  | none => .raw o
theorem compR_inv (P : Program) (ow : List Nat) (o : Oper) : (compOp P ow o = some (compR P ow o) ∧ (compR P ow o).isRaw = false) ∨ compR P ow o = .raw o := by
  unfold compR
  split
  · rename_i op h
    split
    · exact .inr rfl
    · rename_i hn
      simp only [Bool.or_eq_true, not_or] at hn
      exact .inl ⟨h, by simpa using hn.1⟩
  · exact .inr rfl
def compO (P : Program) (nt : Nat) (ow : List Nat) (ops : Array Oper) (h : Hint) (o : Oper) : Option IOper :=
  match guardM ops o.guard, dstOk nt o.dst with
  | some g, true => some ⟨o.dst, compR P ow o, g, h⟩
  | _, _ => none
def compL (P : Program) (nt : Nat) (ow : List Nat) (ops : Array Oper) (hs : List (Nat × Hint)) : Nat → List Oper → Option (List IOper)
  | _, [] => some []
  | k, o :: l => match compO P nt ow ops (hintAt hs k) o, compL P nt ow ops hs (k + 1) l with
    | some i, some is => some (i :: is)
    | _, _ => none
theorem compO_inv {P : Program} {nt : Nat} {ow : List Nat} {ops : Array Oper} {hh : Hint} {o : Oper} {i : IOper} (h : compO P nt ow ops hh o = some i) :
    (compOp P ow o = some i.op ∧ i.op.isRaw = false ∨ i.op = .raw o) ∧ i.d = o.dst ∧ (∀ d, o.dst = some d → d < nt) ∧ (o.guard = none ∧ i.g = none ∨ ∃ j want t, o.guard = some (j, want) ∧ (ops[j]?).bind (·.dst) = some t ∧ i.g = some (t, want)) := by
  unfold compO at h
  split at h
  · rename_i g hg hd
    injection h with h; subst h
    refine ⟨compR_inv P ow o, rfl, fun d e => ?_, ?_⟩
    · rw [e] at hd; simpa [dstOk] using hd
    · unfold guardM at hg
      split at hg
      · rename_i hog
        injection hg with hg; subst hg
        exact .inl ⟨hog, rfl⟩
      · rename_i j want hog
        split at hg
        · rename_i t ht
          injection hg with hg; subst hg
          exact .inr ⟨j, want, t, hog, ht, rfl⟩
        · cases hg
  · cases h
section
variable {X : Ctx}
theorem rel_undef {C : Nat → Nat → Prop} {w : World} : Rel C w (.tup []) undef := .tup [] [] rfl (fun i c u h => by simp at h)
theorem tup_nil_inv {μ : Nat → Value} {C : Nat → Nat → Prop} {w : World} {u : Value} (h : TRel μ C w (.tup []) u) : u = .tuple #[] := by
  have h : Rel C w (.tup []) u := h
  cases h with
  | tup _ us hl _ =>
    have h0 : us = [] := List.eq_nil_of_length_eq_zero (by simpa using hl.symm)
    rw [h0]
theorem yielded_not {ops : Array Oper} {a : Act} {j t : Nat} (ht : (ops[j]?).bind (·.dst) = some t) (hu : a.tmps[t]? = some (.tuple #[])) : yielded ops a.tmps j = none := by
  simp [yielded, ht, hu]
theorem Inv.top {s : St} {a : Act} {w : World} (h : Inv X s a w) (d : Option Nat) (hd : ∀ x, d = some x → x < X.nt) : Inv X (s.putD d (.tup [])) (a.put d undef) w := by
  obtain ⟨μ, C, h⟩ := h
  exact .of_putD (h.putD hd (.of_rel rel_undef))
theorem yielded_of {ops : Array Oper} {a : Act} {j t : Nat} {b : Bool} (ht : (ops[j]?).bind (·.dst) = some t) (hu : a.tmps[t]? = some (.bool b)) : yielded ops a.tmps j = some b := by
  simp [yielded, ht, hu]
theorem ER_sound {ow : List Nat} {ops : Array Oper} {hs : List (Nat × Hint)} {Q : Exit → Act → World → Prop} : ∀ (l : List Oper) (k : Nat) (is : List IOper) (K : St → Prop) (s : St) (a : Act) (w : World), compL X.P X.nt ow ops hs k l = some is → ER ⟨X.P, X.G⟩ false is K s → Inv X s a w →
    (∀ s' a' w', Inv X s' a' w' → K s' → Q .normal a' w') → wpList X.P ops Q l a w
  | [], k, is, K, s, a, w, hc, he, hi, hK => by
    simp only [compL, Option.some.injEq] at hc; subst hc
    exact hK s a w hi he
  | o :: l, k, is, K, s, a, w, hc, he, hi, hK => by
    simp only [compL] at hc
    split at hc
    · rename_i i is' h1 h2
      injection hc with hc; subst hc
      obtain ⟨hop, hd, hnt, hg⟩ := compO_inv h1
      have step : E1 ⟨X.P, X.G⟩ false i (ER ⟨X.P, X.G⟩ false is' K) s → o.wp X.P a w (wpList X.P ops Q l) Q := fun he1 =>
        Oper.wp_mono (K := fun a' w' => ∃ s', Inv X s' a' w' ∧ ER ⟨X.P, X.G⟩ false is' K s') (fun a' w' h' => by obtain ⟨s', hi', hk'⟩ := h'; exact ER_sound l (k + 1) is' K s' a' w' h2 hk' hi' hK) (by
          rcases hop with ⟨hop, hnr⟩ | hraw
          · exact E1_sound hnr hop hd hnt he1 hi (Q := Q)
          · simp only [E1, hraw, Bool.false_eq_true, if_false, IOp.vals, St.norm] at he1
            exact he1 X a w Q rfl rfl hnt hi)
      simp only [ER] at he
      simp only [wpList]
      rcases hg with ⟨hg, hig⟩ | ⟨j, want, t, hg, ht, hig⟩
      · rw [hig] at he
        rw [if_pos (by simp [Region.wanted, hg])]
        exact .inl (step he)
      · rw [hig] at he
        simp only at he
        split at he
        · rename_i b hb
          obtain ⟨μ, C, hi0⟩ := hi
          obtain ⟨u, hu, hrel⟩ := hi0.tm t _ hb
          rw [hrel.bool_inv] at hu
          have hy := yielded_of ht hu
          split at he
          · rename_i e
            rw [if_pos (by simp [Region.wanted, hg, hy, e])]
            exact .inl (step he)
          · rename_i e
            rw [if_neg (by simp [Region.wanted, hg, hy, e])]
            rw [hd] at he
            exact ER_sound l (k + 1) is' K _ _ w h2 he (Inv.top ⟨μ, C, hi0⟩ o.dst hnt) hK
        · rename_i hb
          obtain ⟨μ, C, hi0⟩ := hi
          obtain ⟨u, hu, hrel⟩ := hi0.tm t _ hb
          rw [tup_nil_inv hrel] at hu
          have hy := yielded_not ht hu
          rw [if_neg (by simp [Region.wanted, hg, hy])]
          rw [hd] at he
          exact ER_sound l (k + 1) is' K _ _ w h2 he (Inv.top ⟨μ, C, hi0⟩ o.dst hnt) hK
        · exact he.elim
    · cases hc
theorem look_keepT {ks : List Nat} {α : Type} {l : List (Nat × α)} {t : Nat} {v : α} : look (ks.filterMap fun k => (look l k).map fun v => (k, v)) t = some v → look l t = some v := by
  induction ks with
  | nil => intro h; simp [look] at h
  | cons k ks ih =>
    intro h
    simp only [List.filterMap_cons] at h
    cases hk : look l k with
    | none => rw [hk] at h; exact ih h
    | some x =>
      rw [hk] at h
      simp only [Option.map_some, look] at h
      split at h
      · rename_i e; subst e; rw [hk]; exact h
      · exact ih h
theorem InvAt.less {μ : Nat → Value} {C : Nat → Nat → Prop} {T T' : Nat → Option AV} {O O' : Nat → Option Ob} {a : Act} {w : World} (h : InvAt X μ C T O a w) (hT : ∀ t v, T' t = some v → T t = some v) (hO : ∀ t v, O' t = some v → O t = some v) : InvAt X μ C T' O' a w :=
  ⟨fun t v ht => h.tm t v (hT t v ht), fun i b hi => h.ob i b (hO i b hi), fun i j b c hi hj => h.ap i j b c (hO i b hi) (hO j c hj), h.cw, h.c0, h.gr, h.be, h.sz, h.df, h.nw, h.pn, h.nb⟩
theorem Inv.keep {s : St} {a : Act} {w : World} (h : Inv X s a w) (kt ko : List Nat) : Inv X (s.keep kt ko) a w := by
  obtain ⟨μ, C, h⟩ := h
  exact ⟨μ, C, h.less (fun t v => look_keepT) fun t v => look_keepT⟩
end
end Go.Proofs.YtgehlcgjchfibaaGreatDoor.F
