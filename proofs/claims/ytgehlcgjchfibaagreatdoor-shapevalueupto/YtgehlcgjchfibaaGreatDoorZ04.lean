/-
  What the functions that the laws call compute, for every input that the statements allow (part 4): for the claims up to a bulk of 1048576.
-/
import Derived.Test.YtgehlcgjchfibaaGreatDoorZ03
import Derived.Laws.CopyOwn
import Derived.Laws.MakeOwn
import Derived.WalkKit
import Derived.RegionTactic
import Derived.OwnWalk
import Derived.Lib.Hide
import Derived.Laws.Rows
import Derived.Lib.AppendZerosOnto
import Derived.Shelf.SlicesQ.IndexFunc
import Derived.Shelf.Spec.SlicesGrow
import Derived.Ground.SlgfProg
import Derived.Ground.Names8Prog
import Derived.Test.YtgehlcgjchfibaaGreatDoorProg
import Derived.Test.YtgehlcgjchfibaaGreatDoorChecked
import Derived.RangeFuncNested
import Derived.RangeFuncBox
import Derived.RangeFuncLeaves
import Derived.Shelf.Abstract
import Derived.Shelf.RegionOpen
import Derived.OwnWalkIn
import Derived.TacticsInMore
import Derived.LoopNIn
import Derived.LoopIn
set_option maxRecDepth 100000
set_option linter.unusedVariables false
set_option linter.unusedSimpArgs false
set_option linter.defProp false
namespace Go.Proofs.YtgehlcgjchfibaaGreatDoor.F
open Go Go.RowKit Go.Proofs
theorem info94 : (Tryz.prog.info? 94).map (fun i => (i.zero, i.size, i.bytes)) = some (some (.int .u32 0), 1, 4) := by kernel_rfl
theorem setRow_new (W : World) (z c : Array Value) (t : TypeId) : (W.alloc (.cells z t)).setRow W.heap.size c = W.alloc (.cells c t) := by
  have h : ((W.alloc (.cells z t)).setRow W.heap.size c).heap = (W.alloc (.cells c t)).heap := by
    apply Array.ext_getElem?
    intro i
    by_cases e : i = W.heap.size
    · subst e
      rw [setRow_heap _ _ z c t (0, 0) (heap_alloc_new _ _), heap_alloc_new]
    · rw [setRow_other _ _ _ _ e]
      by_cases hi : i < W.heap.size
      · rw [heap_alloc_old _ _ hi, heap_alloc_old _ _ hi]
      · rw [Array.getElem?_eq_none (by rw [World.size_alloc]; omega), Array.getElem?_eq_none (by rw [World.size_alloc]; omega)]
  have e : (W.alloc (.cells z t)).setRow W.heap.size c = { W.alloc (.cells z t) with heap := ((W.alloc (.cells z t)).setRow W.heap.size c).heap } := rfl
  rw [e, h]
  rfl
theorem run_copy_new (W : World) (A : Option Addr) (n cap k : Nat) (hk : k ≤ n) (cs : List Value) (hcs : cs.length = k) (h1 : ∀ v ∈ cs, v.oneCell' = true) (z : Array Value) (hz : z.size = k)
    (hsrc : 0 < k → ∃ ad, A = some ad ∧ ∀ j v, cs[j]? = some v → (W.alloc (.cells z 94)).cell? (ad.add j) = some v) :
    (Builtin.copy_ #[84, 84] 3 #[.slice (some ⟨W.heap.size, 0, none⟩) k k, .slice A n cap]).run Tryz.prog (W.alloc (.cells z 94)) = .ok (.int .i64 k) (W.alloc (.cells cs.toArray 94)) := by
  obtain ⟨i0, hi, hz0, hz1, hz2⟩ := info_parts info94
  have hsz : (Tryz.prog.info? 94).map (·.size) = some 1 := by rw [hi]; simp [hz1]
  by_cases h0 : k = 0
  · subst h0
    have : cs = [] := List.eq_nil_of_length_eq_zero hcs
    subst this
    have hz' : z = #[] := Array.eq_empty_of_size_eq_zero hz
    subst hz'
    rw [run_copy_none (P := Tryz.prog) _ 84 84 3 94 _ _ _ _ _ _ Tryz.underlying84 hsz (by simp)]
    rfl
  · obtain ⟨ad, rfl, hs⟩ := hsrc (by omega)
    have hg : (W.alloc (.cells z 94)).heap[W.heap.size]? = some (.cells z 94 (0, 0)) := heap_alloc_new _ _
    rw [run_copy_row (P := Tryz.prog) _ 84 84 3 94 W.heap.size 0 k k ad n cap z 94 cs Tryz.underlying84 hsz hg (by rw [hcs]; simp [Nat.min_def]; omega) hs (by omega) h1]
    have : cs.toArray = (List.take 0 z.toList ++ cs ++ List.drop (0 + cs.length) z.toList).toArray := by
      rw [List.take_zero, List.nil_append, List.drop_of_length_le (by simp; omega), List.append_nil]
    rw [← this, hcs]
    rw [setRow_new]
    rfl
theorem walk92 (A : Option Addr) (n cap k : Nat) (w : World) (hk : k ≤ n) (hn : n < 1099511627776) (cs : List Value) (hcs : cs.length = k) (h1 : ∀ v ∈ cs, v.oneCell' = true)
    (hsrc : 0 < k → ∃ ad, A = some ad ∧ ∀ w', Below w.heap.size w w' → ∀ j v, cs[j]? = some v → w'.cell? (ad.add j) = some v)
    (h98 : Calls Tryz.prog 98 #[.slice A n cap] w fun e w' => e = .returned (.int .i64 k) ∧ Below w.heap.size w w') :
    Calls Tryz.prog 92 #[.slice A n cap] w fun e w' => ∃ g, e = .returned (.slice (some ⟨g, 0, none⟩) k k) ∧ w.heap.size ≤ g ∧ w'.heap[g]? = some (.cells cs.toArray 94 (0, 0)) ∧ Below w.heap.size w w' := by
  obtain ⟨i0, hi, hz0, hz1, hz2⟩ := info_parts info94
  have hmk : ∀ u : World, (Instr.makeSlice 84 (.int .i64 (k : Int)) (.int .i64 (k : Int))).run Tryz.prog u = .ok (.slice (some ⟨u.heap.size, 0, none⟩) k k) (u.alloc (.cells (madeCells #[.int .u32 0] k) 94)) := fun u => by
    have h := run_make (P := Tryz.prog) u 84 94 i0 (.int .u32 0) Tryz.underlying84 hi hz0 .i64 .i64 (k : Int) (k : Int) (by omega) (Int.le_refl _) (by rw [hz2]; omega) (by omega)
    simpa [hz1, Value.cells] using h
  clear hz0 hz1 hz2 hi
  have Hc := Lib.hid (fun (W : World) (hb : Below w.heap.size w W) => run_copy_new W A n cap k hk cs hcs h1 (madeCells #[.int .u32 0] k) (by simp [madeCells]) (fun h => by
    obtain ⟨ad, ha, hs⟩ := hsrc h
    exact ⟨ad, ha, hs _ (hb.alloc hb.size _)⟩))
  clear hcs hsrc h1
  go_enter Tryz.func92, Tryz.ntmps92
  go_wp2_with (go_at_call 98; refine h98.mono ?_; rintro e w1 ⟨rfl, hb⟩; have hc1 := Hc.out w1 hb)
  go_ret
  exact ⟨w1.heap.size, rfl, hb.size, heap_alloc_new _ _, hb.alloc hb.size _⟩
abbrev uV (n : Nat) : Value := .int .u32 (n : Int)
theorem take_lt_of_trim (xs : List Nat) : trim xs = xs.take (trim xs).length := by
  unfold trim
  have h := List.takeWhile_append_dropWhile (p := (· == 0)) (l := xs.reverse)
  have h2 : xs = (xs.reverse.dropWhile (· == 0)).reverse ++ (xs.reverse.takeWhile (· == 0)).reverse := by
    rw [← List.reverse_append, h, List.reverse_reverse]
  generalize (xs.reverse.dropWhile (· == 0)).reverse = a at *
  generalize (xs.reverse.takeWhile (· == 0)).reverse = b at *
  rw [h2]; simp
theorem relL_inv1 {C : Nat → Nat → Prop} {w : World} {x : AV} {us : Array Value} (h : RelL C w [x] us.toList) : ∃ u, us = #[u] ∧ Rel C w x u := by
  obtain ⟨u, t, h1, h2, h3⟩ := h.cons_inv
  have h4 := h3.nil_inv
  subst h4
  exact ⟨u, by cases us; simp_all, h2⟩
theorem u32_cells {C : Nat → Nat → Prop} {w : World} {n : Nat} {u : Value} (h : Rel C w (u32 n) u) : u = .int .u32 n := by cases h; rfl
theorem con92 (xs : List Nat) (hl : xs.length < 1099511627776) : Fn 92 [L xs] (L (trim xs)) := by
  intro w C us hC hG hr
  obtain ⟨v, rfl, hv⟩ := relL_inv1 hr
  have hle := trim_le xs
  have h98 := con98 xs hl w C #[v] hC hG hr
  obtain ⟨A, cap, he, hA, hne⟩ := (TRel.of_rel (μ := fun _ => v) hv).sl_inv
  subst he
  rw [List.length_map] at h98 ⊢
  have hcs : ((trim xs).map uV).length = (trim xs).length := List.length_map _
  have hw := walk92 A xs.length cap (trim xs).length w hle hl ((trim xs).map uV) hcs
    (by intro v hv; obtain ⟨n, _, rfl⟩ := List.mem_map.1 hv; rfl)
    (by
      intro h0
      obtain ⟨b, off, us, rfl, hc, hx, hs, hq⟩ := hne (fun e => by have hx0 : xs = [] := by { simpa using e }; subst hx0; exact absurd h0 (by decide))
      refine ⟨_, rfl, fun w' hb j v hj => ?_⟩
      have hjl : j < (trim xs).length := by have := (List.getElem?_eq_some_iff.1 hj).1; rwa [hcs] at this
      have hjx : j < xs.length := by omega
      have hval : v = .int .u32 (xs.getD j 0 : Nat) := by
        rw [List.getElem?_map] at hj
        rw [take_lt_of_trim xs, List.getElem?_take, if_pos hjl, List.getElem?_eq_getElem hjx] at hj
        simp only [Option.map_some, Option.some.injEq] at hj
        rw [← hj, List.getD_eq_getElem?_getD, List.getElem?_eq_getElem hjx]; rfl
      have hxj : (xs.map u32)[j]? = some (u32 (xs.getD j 0)) := by
        rw [List.getElem?_map, List.getElem?_eq_getElem hjx, List.getD_eq_getElem?_getD, List.getElem?_eq_getElem hjx]; rfl
      have hu := u32_cells (hx j _ hxj)
      have hcell := hq j 0 (us j) (by rw [List.length_map]; exact hjx) (by rw [hu]; rfl)
      rw [hval, ← hu, Addr.add_mid]
      rw [cell_same (hb.block b (hC _ _ hcell.1))]
      have := hcell.2
      rwa [Nat.mul_one, Nat.add_zero] at this)
    (h98.mono fun e w' ⟨u, C', h1, h2, h3, h4, h5⟩ => ⟨by rw [h1]; cases h5; rfl, h2⟩)
  refine hw.mono ?_
  rintro e w' ⟨g, rfl, hg, hh, hb⟩
  refine ⟨_, fun b o => C b o ∨ b = g, rfl, hb, fun b o h => .inl h, fun b o h => ?_, ?_⟩
  · rcases h with h | h
    · exact ⟨Nat.lt_of_lt_of_le (hC b o h) hb.size, .inl h⟩
    · subst h
      exact ⟨(Array.getElem?_eq_some_iff.1 hh).1, .inr hg⟩
  · have hlen : ((trim xs).map u32).length = (trim xs).length := List.length_map _
    have := Rel.sl (C := fun b o => C b o ∨ b = g) (w := w') 1 ((trim xs).map u32) g 0 (trim xs).length (fun j => Value.int .u32 ((trim xs).getD j 0 : Nat)) (by omega)
      (fun j x hx => by
        rw [List.getElem?_map] at hx
        cases hj : (trim xs)[j]? with
        | none => rw [hj] at hx; cases hx
        | some n =>
          rw [hj] at hx
          injection hx with hx
          subst hx
          rw [List.getD_eq_getElem?_getD, hj]
          exact .int _ _)
      (fun j hj => ⟨rfl, fun c hc => by simp [Value.cells] at hc; subst hc; rfl⟩)
      (fun i j c hi hj => by
        refine ⟨.inr rfl, ?_⟩
        have hj0 : j = 0 := by have := (Array.getElem?_eq_some_iff.1 hj).1; simp [Value.cells] at this; omega
        subst hj0
        have hc : c = .int .u32 ((trim xs).getD i 0 : Nat) := by simpa [Value.cells] using hj.symm
        subst hc
        rw [hlen] at hi
        have hd : (trim xs).getD i 0 = (trim xs)[i] := by rw [List.getD_eq_getElem?_getD, List.getElem?_eq_getElem hi]; rfl
        rw [hd]
        simp [World.cell?, hh, hi])
    rw [hlen] at this
    exact this
theorem con137 (xs : List Nat) (hl : xs.length < 1099511627776) : ConO Tryz.prog gs 137 [L xs] 94 1 (xs.map u32) := by
  intro w C us hC hG hr
  obtain ⟨v, rfl, hv⟩ := relL_inv1 hr
  obtain ⟨A, cap, he, hA, hne⟩ := (TRel.of_rel (μ := fun _ => v) hv).sl_inv
  subst he
  rw [List.length_map]
  have hlen : (xs.map u32).length = xs.length := List.length_map _
  have hemp : xs = [] → ObRel C w (fun k => w.heap.size ≤ k) (.row 94 1 (xs.map u32)) (.slice none 0 0) := by
    intro e; subst e
    exact ⟨[], RelL.nil _ _, by simp, ⟨by simp [cellsOf], .inl ⟨rfl, rfl⟩⟩, fun g hg => by simp [mblk] at hg⟩
  cases A with
  | none =>
    have hx : xs = [] := by
      refine Classical.byContradiction fun hx => ?_
      obtain ⟨b, off, us, e, _⟩ := hne (by simpa using hx)
      cases e
    refine (Tryz.slices_Clone_nil xs.length cap w).mono ?_
    rintro e w' ⟨rfl, rfl⟩
    exact ⟨_, C, rfl, Below.refl _ _, fun _ _ h => h, fun b o h => ⟨hC b o h, .inl h⟩, hemp hx⟩
  | some a =>
    have ha := hA a rfl
    obtain ⟨b, off, sp⟩ := a
    simp only at ha
    subst ha
    obtain ⟨i0, hi, hz0, hz1, hz2⟩ := info_parts info94
    have hcells : ∀ j u, (xs.map uV)[j]? = some u → w.cell? ⟨b, off + j, none⟩ = some u := by
      intro j v hj
      have hjl : j < xs.length := by have := (List.getElem?_eq_some_iff.1 hj).1; rwa [List.length_map] at this
      obtain ⟨b', off', us, e, hc, hx, hs, hq⟩ := hne (by intro e; have := congrArg List.length e; simp at this; subst this; simp at hjl)
      injection e with e
      injection e with e1 e2
      subst e1 e2
      have hval : v = .int .u32 (xs.getD j 0 : Nat) := by
        rw [List.getElem?_map, List.getElem?_eq_getElem hjl] at hj
        simp only [Option.map_some, Option.some.injEq] at hj
        rw [← hj, List.getD_eq_getElem?_getD, List.getElem?_eq_getElem hjl]; rfl
      have hxj : (xs.map u32)[j]? = some (u32 (xs.getD j 0)) := by
        rw [List.getElem?_map, List.getElem?_eq_getElem hjl, List.getD_eq_getElem?_getD, List.getElem?_eq_getElem hjl]; rfl
      have hu := u32_cells (hx j _ hxj)
      have hcell := hq j 0 (us j) (by rw [List.length_map]; exact hjl) (by rw [hu]; rfl)
      rw [hval, ← hu]
      have := hcell.2
      rwa [Nat.mul_one, Nat.add_zero] at this
    refine (Tryz.slices_Clone i0 (.int .u32 0) 1 4 hi hz0 hz1 hz2 rfl (by decide) Tryz.sizeOf94 b off xs.length cap (xs.map uV) w (by simp) (by unfold maxLen; omega) (by omega) hcells (by intro v hv; obtain ⟨n, _, rfl⟩ := List.mem_map.1 hv; rfl)).mono ?_
    rintro e w' ⟨v', rfl, hown, _, hb⟩
    refine ⟨v', C, rfl, hb, fun _ _ h => h, fun b o h => ⟨Nat.lt_of_lt_of_le (hC b o h) hb.size, .inl h⟩, ?_⟩
    have hcs : cellsOf (xs.map uV) = xs.map uV := cellsOf_one fun u hu => by obtain ⟨n, _, rfl⟩ := List.mem_map.1 hu; rfl
    refine ⟨xs.map uV, ⟨by simp, fun i x u hx hu => ?_⟩, fun u hu => ?_, ?_, fun g hg => ?_⟩
    · rw [List.getElem?_map] at hx hu
      cases hj : xs[i]? with
      | none => rw [hj] at hx; cases hx
      | some n =>
        rw [hj] at hx hu
        injection hx with hx
        injection hu with hu
        subst hx hu
        exact .int _ _
    · obtain ⟨n, _, rfl⟩ := List.mem_map.1 hu
      exact ⟨rfl, fun c hc => by simp [Value.cells] at hc; subst hc; rfl⟩
    · rw [hcs, hlen]
      obtain ⟨q1, q2⟩ := hown
      refine ⟨q1, ?_⟩
      rcases q2 with q2 | ⟨g, cap, cur, q3, q4, q5⟩
      · exact .inl q2
      · exact .inr ⟨g, cap, cur, q3, Nat.zero_le _, q5⟩
    · rcases hown.2 with ⟨q, _⟩ | ⟨g', cap, cur, q3, q4, q5⟩
      · rw [q] at hg; simp [mblk] at hg
      · rw [q3] at hg
        have : g' = g := by simpa [mblk] using hg
        subst this
        exact ⟨q4, fun o hc => by have := hC _ _ hc; omega⟩
theorem tdivB (v : Nat) : (v : Int).tdiv 1000000000 = ((v / 1000000000 : Nat) : Int) := rfl
theorem tmodB (v : Nat) : (v : Int).tmod 1000000000 = ((v % 1000000000 : Nat) : Int) := rfl
theorem getD_over {ys : List Nat} {i : Nat} (h : ¬ i < ys.length) : ys.getD i 0 = 0 := by simp [List.getD_eq_getElem?_getD, List.getElem?_eq_none (Nat.le_of_not_lt h)]
theorem lv_take_any {xs : List Nat} (n : Nat) : lv (xs.take (n + 1)) = lv (xs.take n) + 1000000000 ^ n * xs.getD n 0 := by
  by_cases h : n < xs.length
  · exact lv_take_succ h
  · rw [getD_over h, List.take_of_length_le (by omega), List.take_of_length_le (by omega)]; simp
def I75 (xs ys : List Nat) (n : Nat) (s : St) : Prop := ∃ (i c : Nat) (out : List Nat), n = xs.length - i ∧ i ≤ xs.length ∧ s = ⟨[(1, L ys), (5, .own 20), (6, u32 c), (21, L xs), (22, i64 xs.length), (23, i64 i)], [(20, .row 94 1 (out.map u32))]⟩ ∧ out.length = i ∧ ok out ∧ c ≤ 1 ∧
    lv out + 1000000000 ^ i * c = lv (xs.take i) + lv (ys.take i)
theorem core75 {xs ys : List Nat} (h : ys.length ≤ xs.length) (hl : xs.length < 1000000000) (hx : ok xs) (hy : ok ys) :
    VC e0 ic75_6 (retQ [(4, none)] (L (limbs (lv xs + lv ys)))) ⟨[(0, L xs), (1, L ys)], []⟩ := by
  have h1 : IntKind.i64.wrap ((xs.length : Int) + 1) = (xs.length : Int) + 1 := by rw [wrap64] <;> omega
  simp only [ic75_6, wkA, Nat.reduceEqDiff, Nat.reduceAdd, Nat.reduceSub, Nat.reduceLeDiff, Nat.reduceLT, Nat.reduceBEq, Nat.reduceBNe, reduceCtorEq, L, lenL, h1]
  refine ⟨by omega, I75 xs ys, xs.length, _, Gh.refl _, ⟨0, 0, [], rfl, Nat.zero_le _, rfl, rfl, ok_nil, by omega, by simp [lv]⟩, ?_⟩
  rintro n s ⟨i, c, out, rfl, hi, rfl, ho, hok, hc, hv⟩
  by_cases hlt : i < xs.length
  · have h0 : decide ((i : Int) < xs.length) = true := decide_eq_true (by omega)
    have e1 : IntKind.i64.wrap ((i : Int) + 1) = ((i + 1 : Nat) : Int) := by rw [wrap64] <;> omega
    have hg := ok_get hx i
    have hg2 := ok_get hy i
    have e2 : IntKind.u32.wrap ((xs.getD i 0 : Int) + c) = ((xs.getD i 0 + c : Nat) : Int) := by rw [wrap32] <;> omega
    have key : ∀ (v : Nat) (Q : Exit → St → Prop), v = xs.getD i 0 + c + ys.getD i 0 → VC e0 ic75_1 (blockQ 1 (thenQ (VC e0 ic75_2 (thenQ (backQ (I75 xs ys) (xs.length - i)) Q)) (thenQ (backQ (I75 xs ys) (xs.length - i)) Q)))
        ⟨[(1, .sl 1 (ys.map u32)), (5, .own 20), (9, u32 v), (21, .sl 1 (xs.map u32)), (22, i64 xs.length), (23, i64 i)], [(20, .row 94 1 (out.map u32))]⟩ := by
      intro v Q hv'
      have e4 : IntKind.u32.wrap ((v / 1000000000 : Nat) : Int) = ((v / 1000000000 : Nat) : Int) := by rw [wrap32] <;> omega
      simp only [ic75_1, ic75_2, wkA, Nat.reduceEqDiff, Nat.reduceAdd, Nat.reduceSub, Nat.reduceLeDiff, Nat.reduceLT, Nat.reduceBEq, Nat.reduceBNe, reduceCtorEq, L, lenL, e1, List.length_map, tdivB, tmodB, e4]
      refine ⟨by omega, by omega, ⟨by omega, by omega⟩, _, xs.length - (i + 1), Gh.refl _, by omega, i + 1, v / 1000000000, out ++ [v % 1000000000], rfl, by omega, by simp [L], by simp [ho], ok_append.2 ⟨hok, ok_one.2 (Nat.mod_lt _ (by decide))⟩, by omega, ?_⟩
      rw [lv_append, lv_one, lv_take_any, lv_take_any, ho, Nat.pow_succ]
      have : v = 1000000000 * (v / 1000000000) + v % 1000000000 := (Nat.div_add_mod _ _).symm
      have h5 : 1000000000 ^ i * v = 1000000000 ^ i * xs.getD i 0 + 1000000000 ^ i * c + 1000000000 ^ i * ys.getD i 0 := by rw [hv', Nat.mul_add, Nat.mul_add]
      have h6 : 1000000000 ^ i * v = 1000000000 ^ i * 1000000000 * (v / 1000000000) + 1000000000 ^ i * (v % 1000000000) := by
        conv => lhs; rw [this]
        rw [Nat.mul_add, Nat.mul_assoc]
      omega
    by_cases hy2 : i < ys.length
    · have h2 : decide ((i : Int) < ys.length) = true := decide_eq_true (by omega)
      have e3 : IntKind.u32.wrap (((xs.getD i 0 + c : Nat) : Int) + ys.getD i 0) = ((xs.getD i 0 + c + ys.getD i 0 : Nat) : Int) := by rw [wrap32] <;> omega
      simp only [ic75_4, ic75_3, wkA, Nat.reduceEqDiff, Nat.reduceAdd, Nat.reduceSub, Nat.reduceLeDiff, Nat.reduceLT, Nat.reduceBEq, Nat.reduceBNe, reduceCtorEq, L, lenL, h0, h2, Int.toNat_natCast, getL hlt, getL hy2, e2, e3]
      exact ⟨by omega, by omega, key _ _ rfl⟩
    · have h2 : decide ((i : Int) < ys.length) = false := decide_eq_false (by omega)
      simp only [ic75_4, ic75_3, wkA, Nat.reduceEqDiff, Nat.reduceAdd, Nat.reduceSub, Nat.reduceLeDiff, Nat.reduceLT, Nat.reduceBEq, Nat.reduceBNe, reduceCtorEq, L, lenL, h0, h2, Int.toNat_natCast, getL hlt, e2]
      exact ⟨by omega, key _ _ (by rw [getD_over hy2]; rfl)⟩
  · have h0 : decide ((i : Int) < xs.length) = false := decide_eq_false (by omega)
    simp only [ic75_4, ic75_3, ic75_5, wkA, Nat.reduceEqDiff, Nat.reduceAdd, Nat.reduceSub, Nat.reduceLeDiff, Nat.reduceLT, Nat.reduceBEq, Nat.reduceBNe, reduceCtorEq, L, lenL, h0, List.length_map]
    have hi2 : i = xs.length := by omega
    subst hi2
    refine ⟨⟨by omega, by omega⟩, callF (r := L (trim (out ++ [c]))) ?_ rfl ?_⟩
    · have := con92 (out ++ [c]) (by simp [ho]; omega)
      simp only [L, List.map_append, List.map_cons, List.map_nil] at this ⊢
      exact this
    · simp only [L, wkA, Nat.reduceEqDiff, Nat.reduceAdd, Nat.reduceSub, Nat.reduceLeDiff, Nat.reduceLT, Nat.reduceBEq, Nat.reduceBNe, reduceCtorEq]
      rw [← limbs_lv (ok_append.2 ⟨hok, ok_one.2 (by omega)⟩), lv_append, lv_one, ho, hv]
      simp [List.take_of_length_le h]
theorem con75 {xs ys : List Nat} (hl : xs.length < 1000000000) (hl2 : ys.length < 1000000000) (hx : ok xs) (hy : ok ys) : Fn 75 [L xs, L ys] (L (limbs (lv xs + lv ys))) := by
  refine e75 (by simp) ?_
  simp only [ic75, wkA, Nat.reduceEqDiff, Nat.reduceAdd, Nat.reduceSub, Nat.reduceLeDiff, Nat.reduceLT, Nat.reduceBEq, Nat.reduceBNe, reduceCtorEq, L, lenL, cnd_if]
  split
  · rename_i h
    have h : xs.length < ys.length := by simpa using h
    rw [Nat.add_comm]
    exact core75 (by omega) hl2 hy hx
  · rename_i h
    have h : ¬ xs.length < ys.length := by simpa using h
    exact core75 (by omega) hl hx hy
theorem neN {a b : Nat} (h : ((a : Int) != b) = true) : a ≠ b := by rintro rfl; simp at h
theorem eqN {a b : Nat} (h : ¬ ((a : Int) != b) = true) : a = b := by
  by_cases e : a = b
  · exact e
  · exact absurd (by simp; omega) h
theorem lv_ge {xs : List Nat} (h : trim xs ≠ []) : 1000000000 ^ ((trim xs).length - 1) ≤ lv (trim xs) := by
  have h1 := trim_last xs h
  have h2 : trim xs = (trim xs).dropLast ++ [(trim xs).getLast h] := (List.dropLast_concat_getLast h).symm
  have h3 : lv (trim xs) = lv (trim xs).dropLast + 1000000000 ^ ((trim xs).length - 1) * (trim xs).getLast h := by
    conv => lhs; rw [h2]
    rw [lv_append, lv_one, List.length_dropLast]
  rw [h3]
  have : 1000000000 ^ ((trim xs).length - 1) * 1 ≤ 1000000000 ^ ((trim xs).length - 1) * (trim xs).getLast h := Nat.mul_le_mul_left _ (by omega)
  omega
theorem lv_lt_of_len {xs ys : List Nat} (hx : ok xs) (h : (trim xs).length < (trim ys).length) : lv (trim xs) < lv (trim ys) := by
  have h1 := lv_lt (ok_trim hx)
  have h2 := lv_ge (xs := ys) (by intro e; rw [e] at h; simp at h)
  have h3 : 1000000000 ^ (trim xs).length ≤ 1000000000 ^ ((trim ys).length - 1) := Nat.pow_le_pow_right (by decide) (by omega)
  omega
theorem cmpI_len {xs ys : List Nat} (hx : ok xs) (hy : ok ys) (h : (trim xs).length ≠ (trim ys).length) : cmpI (trim xs).length (trim ys).length = cmpI (lv xs) (lv ys) := by
  rw [← lv_trim xs, ← lv_trim ys]
  unfold cmpI
  rcases Nat.lt_or_gt_of_ne h with h1 | h1
  · have := lv_lt_of_len (ys := ys) hx h1
    rw [if_pos (by omega), if_pos (by omega)]
  · have := lv_lt_of_len (ys := xs) hy h1
    rw [if_neg (by omega), if_pos (by omega), if_neg (by omega), if_pos (by omega)]
theorem lv_at {xs : List Nat} {i : Nat} (h : i < xs.length) : lv xs = lv (xs.take i) + 1000000000 ^ i * (xs.getD i 0 + 1000000000 * lv (xs.drop (i + 1))) := by
  rw [lv_split xs i (by omega)]
  congr 2
  rw [List.drop_eq_getElem_cons h]
  simp [lv, List.getD_eq_getElem?_getD, h]
theorem cmpI_at {xs ys : List Nat} (hx : ok xs) (hy : ok ys) {i : Nat} (h1 : i < xs.length) (h2 : i < ys.length) (hd : xs.drop (i + 1) = ys.drop (i + 1)) (hne : xs.getD i 0 ≠ ys.getD i 0) : cmpI (xs.getD i 0) (ys.getD i 0) = cmpI (lv xs) (lv ys) := by
  have e1 := lv_at h1
  have e2 := lv_at h2
  rw [hd] at e1
  have t1 : lv (xs.take i) < 1000000000 ^ i := by have := lv_lt (ok_sub hx fun x hx => List.mem_of_mem_take hx : ok (xs.take i)); rwa [List.length_take, Nat.min_eq_left (by omega)] at this
  have t2 : lv (ys.take i) < 1000000000 ^ i := by have := lv_lt (ok_sub hy fun x hx => List.mem_of_mem_take hx : ok (ys.take i)); rwa [List.length_take, Nat.min_eq_left (by omega)] at this
  generalize lv (ys.drop (i + 1)) = R at e1 e2
  unfold cmpI
  rcases Nat.lt_or_gt_of_ne hne with h | h
  · have := Nat.mul_le_mul_left (1000000000 ^ i) (show xs.getD i 0 + 1000000000 * R + 1 ≤ ys.getD i 0 + 1000000000 * R by omega)
    rw [Nat.mul_add _ _ 1] at this
    rw [if_pos (by omega), if_pos (by omega)]
  · have := Nat.mul_le_mul_left (1000000000 ^ i) (show ys.getD i 0 + 1000000000 * R + 1 ≤ xs.getD i 0 + 1000000000 * R by omega)
    rw [Nat.mul_add _ _ 1] at this
    rw [if_neg (by omega), if_pos (by omega), if_neg (by omega), if_pos (by omega)]
def I74 (xs ys : List Nat) (n : Nat) (s : St) : Prop := n ≤ xs.length ∧ s = ⟨[(0, L xs), (1, L ys), (5, i64 ((n : Int) - 1))], []⟩ ∧ xs.drop n = ys.drop n
theorem con74 {xs ys : List Nat} (hl : xs.length < 1000000000) (hl2 : ys.length < 1000000000) (hx : ok xs) (hy : ok ys) : Fn 74 [L xs, L ys] (i64 (cmpI (lv xs) (lv ys))) := by
  refine e74 (by simp) ?_
  have hlx := trim_le xs
  have hly := trim_le ys
  simp only [ic74, wkA, Nat.reduceEqDiff, Nat.reduceAdd, Nat.reduceSub, Nat.reduceLeDiff, Nat.reduceLT, Nat.reduceBEq, Nat.reduceBNe, reduceCtorEq]
  refine callFD (con98 xs (by omega)) rfl ?_
  simp only [wkA, Nat.reduceEqDiff, Nat.reduceAdd, Nat.reduceSub, Nat.reduceLeDiff, Nat.reduceLT, Nat.reduceBEq, Nat.reduceBNe, reduceCtorEq, L, lenL]
  refine ⟨⟨by omega, by omega⟩, ?_⟩
  refine callFD (con98 ys (by omega)) rfl ?_
  simp only [wkA, Nat.reduceEqDiff, Nat.reduceAdd, Nat.reduceSub, Nat.reduceLeDiff, Nat.reduceLT, Nat.reduceBEq, Nat.reduceBNe, reduceCtorEq, L, lenL, mapTake, mapDrop, List.drop_zero, Int.toNat_natCast, Int.toNat_zero, Nat.sub_zero, trim_take]
  refine ⟨⟨by omega, by omega⟩, ?_⟩
  rw [cnd_if]
  split
  · rename_i h
    have h : (trim xs).length ≠ (trim ys).length := neN h
    simp only [wkA, Nat.reduceEqDiff, Nat.reduceAdd, Nat.reduceSub, Nat.reduceLeDiff, Nat.reduceLT, Nat.reduceBEq, Nat.reduceBNe, reduceCtorEq, lenL]
    refine callF (con99 _ _) rfl ?_
    simp only [wkA, Nat.reduceEqDiff, Nat.reduceAdd, Nat.reduceSub, Nat.reduceLeDiff, Nat.reduceLT, Nat.reduceBEq, Nat.reduceBNe, reduceCtorEq, cmpI_len hx hy h]
  · rename_i h
    have h : (trim xs).length = (trim ys).length := eqN h
    have e1 : IntKind.i64.wrap (((trim xs).length : Int) - 1) = ((trim xs).length : Int) - 1 := by rw [wrap64] <;> omega
    simp only [ic74_5, wkA, Nat.reduceEqDiff, Nat.reduceAdd, Nat.reduceSub, Nat.reduceLeDiff, Nat.reduceLT, Nat.reduceBEq, Nat.reduceBNe, reduceCtorEq, L, lenL, e1]
    refine ⟨I74 (trim xs) (trim ys), (trim xs).length, _, Gh.refl _, ⟨Nat.le_refl _, rfl, by rw [List.drop_length, h, List.drop_length]⟩, ?_⟩
    rintro n s ⟨hn, rfl, hd⟩
    rcases n with _ | n
    · have h0 : decide (((0 : Nat) : Int) - 1 ≥ 0) = false := decide_eq_false (by omega)
      simp only [ic74_3, ic74_4, wkA, Nat.reduceEqDiff, Nat.reduceAdd, Nat.reduceSub, Nat.reduceLeDiff, Nat.reduceLT, Nat.reduceBEq, Nat.reduceBNe, reduceCtorEq, h0]
      simp only [List.drop_zero] at hd
      rw [← lv_trim xs, ← lv_trim ys, hd]
      simp [cmpI]
    · have h0 : decide (((n + 1 : Nat) : Int) - 1 ≥ 0) = true := decide_eq_true (by omega)
      have e2 : ((n + 1 : Nat) : Int) - 1 = n := by omega
      have e3 : IntKind.i64.wrap ((n : Int) - 1) = (n : Int) - 1 := by rw [wrap64] <;> omega
      have h0b : decide ((n : Int) ≥ 0) = true := decide_eq_true (by omega)
      simp only [ic74_3, ic74_2, ic74_1, wkA, Nat.reduceEqDiff, Nat.reduceAdd, Nat.reduceSub, Nat.reduceLeDiff, Nat.reduceLT, Nat.reduceBEq, Nat.reduceBNe, reduceCtorEq, h0, h0b, L, lenL, e2, e3, Int.toNat_natCast, getL (show n < (trim xs).length by omega), getL (show n < (trim ys).length by omega)]
      refine ⟨⟨by omega, by omega⟩, ⟨by omega, by omega⟩, ?_⟩
      rw [cnd_if]
      split
      · rename_i hne
        have hne : (trim xs).getD n 0 ≠ (trim ys).getD n 0 := neN hne
        simp only [ic74_1, wkA, Nat.reduceEqDiff, Nat.reduceAdd, Nat.reduceSub, Nat.reduceLeDiff, Nat.reduceLT, Nat.reduceBEq, Nat.reduceBNe, reduceCtorEq, lenL, e3, Int.toNat_natCast, getL (show n < (trim xs).length by omega), getL (show n < (trim ys).length by omega)]
        refine ⟨⟨by omega, by omega⟩, ⟨by omega, by omega⟩, callFD (con100 _ _) rfl ?_⟩
        simp only [wkA, Nat.reduceEqDiff, Nat.reduceAdd, Nat.reduceSub, Nat.reduceLeDiff, Nat.reduceLT, Nat.reduceBEq, Nat.reduceBNe, reduceCtorEq, cmpI_at (ok_trim hx) (ok_trim hy) (show n < (trim xs).length by omega) (by omega) hd hne, lv_trim]
      · rename_i hne
        have hne : (trim xs).getD n 0 = (trim ys).getD n 0 := eqN hne
        simp only [ic74_1, wkA, Nat.reduceEqDiff, Nat.reduceAdd, Nat.reduceSub, Nat.reduceLeDiff, Nat.reduceLT, Nat.reduceBEq, Nat.reduceBNe, reduceCtorEq, e3]
        refine ⟨_, n, Gh.refl _, by omega, by omega, rfl, ?_⟩
        rw [List.drop_eq_getElem_cons (show n < (trim xs).length by omega), List.drop_eq_getElem_cons (show n < (trim ys).length by omega), hd]
        congr 1
        simpa [List.getD_eq_getElem?_getD, show n < (trim xs).length by omega, show n < (trim ys).length by omega] using hne
def I121 (xs ys : List Nat) (n : Nat) (s : St) : Prop := ∃ (i c : Nat) (out : List Nat), n = xs.length - i ∧ i ≤ xs.length ∧ s = ⟨[(1, L ys), (6, .own 21), (7, u32 c), (22, L xs), (23, i64 xs.length), (24, i64 i)], [(21, .row 94 1 (out.map u32))]⟩ ∧ out.length = i ∧ ok out ∧ c ≤ 1 ∧
    lv (xs.take i) + 1000000000 ^ i * c = lv out + lv (ys.take i)
theorem con121 {xs ys : List Nat} (hl : xs.length < 1000000000) (hl2 : ys.length < 1000000000) (hx : ok xs) (hy : ok ys) (h : lv ys ≤ lv xs) : Fn 121 [L xs, L ys] (.tup [L (limbs (lv xs - lv ys)), .bool true]) := by
  refine e121 (by simp) ?_
  have hlt := trim_le ys
  simp only [ic121, wkA, Nat.reduceEqDiff, Nat.reduceAdd, Nat.reduceSub, Nat.reduceLeDiff, Nat.reduceLT, Nat.reduceBEq, Nat.reduceBNe, reduceCtorEq, L, lenL, mapTake, mapDrop, List.drop_zero, Int.toNat_natCast, Int.toNat_zero, Nat.sub_zero, List.length_map]
  refine callF (con74 hl hl2 hx hy) rfl ?_
  have h0 : decide (cmpI (lv xs) (lv ys) < 0) = false := decide_eq_false (by unfold cmpI; split <;> (try split) <;> omega)
  simp only [wkA, Nat.reduceEqDiff, Nat.reduceAdd, Nat.reduceSub, Nat.reduceLeDiff, Nat.reduceLT, Nat.reduceBEq, Nat.reduceBNe, reduceCtorEq, h0, ic121_7]
  refine callF (con98 ys (by omega)) rfl ?_
  simp only [wkA, Nat.reduceEqDiff, Nat.reduceAdd, Nat.reduceSub, Nat.reduceLeDiff, Nat.reduceLT, Nat.reduceBEq, Nat.reduceBNe, reduceCtorEq, L, lenL, mapTake, mapDrop, List.drop_zero, Int.toNat_natCast, Int.toNat_zero, Nat.sub_zero, trim_take]
  refine ⟨⟨by omega, by omega⟩, ⟨by omega, by omega⟩, ?_⟩
  have hty := ok_trim hy
  rw [← lv_trim ys] at h ⊢
  have hys : trim ys = trim ys := rfl
  generalize hyd : trim ys = ys' at *
  refine ⟨I121 xs ys', xs.length, _, Gh.refl _, ⟨0, 0, [], rfl, Nat.zero_le _, rfl, rfl, ok_nil, by omega, by simp [lv]⟩, ?_⟩
  rintro n s ⟨i, c, out, rfl, hi, rfl, ho, hok, hc, hv⟩
  by_cases hlt : i < xs.length
  · have h0 : decide ((i : Int) < xs.length) = true := decide_eq_true (by omega)
    have e1 : IntKind.i64.wrap ((i : Int) + 1) = ((i + 1 : Nat) : Int) := by rw [wrap64] <;> omega
    have hg := ok_get hx i
    have hg2 := ok_get hty i
    have key : ∀ (v : Nat) (Q : Exit → St → Prop), v = c + ys'.getD i 0 → VC e0 ic121_2 (blockQ 1 (thenQ (VC e0 ic121_3 (thenQ (backQ (I121 xs ys') (xs.length - i)) Q)) (thenQ (backQ (I121 xs ys') (xs.length - i)) Q)))
        ⟨[(1, .sl 1 (ys'.map u32)), (6, .own 21), (9, u32 (xs.getD i 0)), (10, u32 v), (22, .sl 1 (xs.map u32)), (23, i64 xs.length), (24, i64 i)], [(21, .row 94 1 (out.map u32))]⟩ := by
      intro v Q hv'
      have e4 : IntKind.u32.wrap ((xs.getD i 0 : Int) + 1000000000) = ((xs.getD i 0 + 1000000000 : Nat) : Int) := by rw [wrap32] <;> omega
      have hp := Nat.pow_succ (n := 1000000000) (m := i)
      have t1 := lv_take_any (xs := xs) i
      have t2 := lv_take_any (xs := ys') i
      have hvm : 1000000000 ^ i * v = 1000000000 ^ i * c + 1000000000 ^ i * ys'.getD i 0 := by rw [hv', Nat.mul_add]
      by_cases hvx : xs.getD i 0 < v
      · have h3 : decide ((xs.getD i 0 : Int) < v) = true := decide_eq_true (by omega)
        have e5 : IntKind.u32.wrap (((xs.getD i 0 + 1000000000 : Nat) : Int) - v) = ((xs.getD i 0 + 1000000000 - v : Nat) : Int) := by rw [wrap32] <;> omega
        simp only [ic121_2, ic121_1, ic121_3, wkA, Nat.reduceEqDiff, Nat.reduceAdd, Nat.reduceSub, Nat.reduceLeDiff, Nat.reduceLT, Nat.reduceBEq, Nat.reduceBNe, reduceCtorEq, L, lenL, mapTake, mapDrop, List.drop_zero, Int.toNat_natCast, Int.toNat_zero, Nat.sub_zero, List.length_map, e1, e4, e5, h3]
        refine ⟨⟨by omega, by omega⟩, _, xs.length - (i + 1), Gh.refl _, by omega, i + 1, 1, out ++ [xs.getD i 0 + 1000000000 - v], rfl, by omega, by simp [L], by simp [ho], ok_append.2 ⟨hok, ok_one.2 (by omega)⟩, by omega, ?_⟩
        have h6 : 1000000000 ^ i * (xs.getD i 0 + 1000000000 - v) + 1000000000 ^ i * v = 1000000000 ^ i * xs.getD i 0 + 1000000000 ^ i * 1000000000 := by
          rw [← Nat.mul_add, ← Nat.mul_add]; congr 1; omega
        rw [lv_append, lv_one, ho, t1, t2, Nat.mul_one]
        omega
      · have h3 : decide ((xs.getD i 0 : Int) < v) = false := decide_eq_false (by omega)
        have e5 : IntKind.u32.wrap ((xs.getD i 0 : Int) - v) = ((xs.getD i 0 - v : Nat) : Int) := by rw [wrap32] <;> omega
        simp only [ic121_2, ic121_1, ic121_3, wkA, Nat.reduceEqDiff, Nat.reduceAdd, Nat.reduceSub, Nat.reduceLeDiff, Nat.reduceLT, Nat.reduceBEq, Nat.reduceBNe, reduceCtorEq, L, lenL, mapTake, mapDrop, List.drop_zero, Int.toNat_natCast, Int.toNat_zero, Nat.sub_zero, List.length_map, e1, e5, h3]
        refine ⟨⟨by omega, by omega⟩, _, xs.length - (i + 1), Gh.refl _, by omega, i + 1, 0, out ++ [xs.getD i 0 - v], rfl, by omega, by simp [L], by simp [ho], ok_append.2 ⟨hok, ok_one.2 (by omega)⟩, by omega, ?_⟩
        have h6 : 1000000000 ^ i * (xs.getD i 0 - v) + 1000000000 ^ i * v = 1000000000 ^ i * xs.getD i 0 := by
          rw [← Nat.mul_add]; congr 1; omega
        rw [lv_append, lv_one, ho, t1, t2]
        omega
    by_cases hy2 : i < ys'.length
    · have h2 : decide ((i : Int) < ys'.length) = true := decide_eq_true (by omega)
      have e3 : IntKind.u32.wrap ((c : Int) + ys'.getD i 0) = ((c + ys'.getD i 0 : Nat) : Int) := by rw [wrap32] <;> omega
      simp only [ic121_5, ic121_4, wkA, Nat.reduceEqDiff, Nat.reduceAdd, Nat.reduceSub, Nat.reduceLeDiff, Nat.reduceLT, Nat.reduceBEq, Nat.reduceBNe, reduceCtorEq, L, lenL, h0, h2, Int.toNat_natCast, getL hlt, getL hy2, e3]
      exact ⟨by omega, by omega, key _ _ rfl⟩
    · have h2 : decide ((i : Int) < ys'.length) = false := decide_eq_false (by omega)
      simp only [ic121_5, ic121_4, wkA, Nat.reduceEqDiff, Nat.reduceAdd, Nat.reduceSub, Nat.reduceLeDiff, Nat.reduceLT, Nat.reduceBEq, Nat.reduceBNe, reduceCtorEq, L, lenL, h0, h2, Int.toNat_natCast, getL hlt]
      exact ⟨by omega, key _ _ (by rw [getD_over hy2]; rfl)⟩
  · have h0 : decide ((i : Int) < xs.length) = false := decide_eq_false (by omega)
    simp only [ic121_5, ic121_4, ic121_6, wkA, Nat.reduceEqDiff, Nat.reduceAdd, Nat.reduceSub, Nat.reduceLeDiff, Nat.reduceLT, Nat.reduceBEq, Nat.reduceBNe, reduceCtorEq, L, lenL, h0, List.length_map]
    have hi2 : i = xs.length := by omega
    subst hi2
    refine callF (r := L (trim out)) ?_ rfl ?_
    · have := con92 out (by omega)
      simp only [L] at this ⊢
      exact this
    · simp only [L, wkA, Nat.reduceEqDiff, Nat.reduceAdd, Nat.reduceSub, Nat.reduceLeDiff, Nat.reduceLT, Nat.reduceBEq, Nat.reduceBNe, reduceCtorEq]
      have h7 := lv_lt hok
      rw [ho] at h7
      have h8 : ys'.length ≤ xs.length := by
        refine Classical.not_not.1 fun hn => ?_
        have := lv_lt_of_len (xs := xs) (ys := ys) hx (by have := trim_le xs; rw [hyd]; omega)
        rw [lv_trim, hyd] at this
        omega
      rw [List.take_length, List.take_of_length_le h8] at hv
      have hc0 : c = 0 := by
        rcases Nat.eq_zero_or_pos c with h9 | h9
        · exact h9
        · have : c = 1 := by omega
          subst this; omega
      subst hc0
      have : lv xs - lv ys' = lv out := by omega
      rw [this, limbs_lv hok]
theorem mapSet (xs : List Nat) (n y : Nat) : (xs.map u32).set n (.int .u32 y) = (xs.set n y).map u32 := by rw [List.map_set]
theorem lv_set : ∀ {xs : List Nat} {k : Nat} (y : Nat), k < xs.length → lv (xs.set k y) + 1000000000 ^ k * xs.getD k 0 = lv xs + 1000000000 ^ k * y
  | [], k, y, h => by simp at h
  | x :: xs, 0, y, h => by simp [lv]; omega
  | x :: xs, k + 1, y, h => by
    have := lv_set (xs := xs) (k := k) y (by simpa using h)
    simp only [List.set_cons_succ, lv, List.getD_cons_succ, Nat.pow_succ]
    have e1 : 1000000000 ^ k * 1000000000 * xs.getD k 0 = 1000000000 * (1000000000 ^ k * xs.getD k 0) := by rw [Nat.mul_comm (1000000000 ^ k), Nat.mul_assoc]
    have e2 : 1000000000 ^ k * 1000000000 * y = 1000000000 * (1000000000 ^ k * y) := by rw [Nat.mul_comm (1000000000 ^ k), Nat.mul_assoc]
    rw [e1, e2]
    omega
theorem ok_set {xs : List Nat} {k y : Nat} (h : ok xs) (hy : y < 1000000000) : ok (xs.set k y) := fun x hx => by
  rcases List.mem_or_eq_of_mem_set hx with hx | hx
  · exact h x hx
  · rw [hx]; exact hy
def padL : Nat → Nat → List Nat
  | 0, _ => []
  | n + 1, v => v % 1000000000 :: padL n (v / 1000000000)
theorem padL_lv {xs : List Nat} (h : ok xs) : padL xs.length (lv xs) = xs := by
  induction xs with
  | nil => rfl
  | cons x xs ih =>
    have hx := h x (by simp)
    have ih := ih fun y hy => h y (by simp [hy])
    simp only [List.length_cons, padL, lv]
    rw [show (x + 1000000000 * lv xs) % 1000000000 = x by omega, show (x + 1000000000 * lv xs) / 1000000000 = lv xs by omega, ih]
theorem padL_len (n v : Nat) : (padL n v).length = n := by
  induction n generalizing v with
  | zero => rfl
  | succ n ih => simp [padL, ih]
theorem padL_ok (n v : Nat) : ok (padL n v) := by
  induction n generalizing v with
  | zero => exact ok_nil
  | succ n ih =>
    intro x hx
    simp only [padL, List.mem_cons] at hx
    rcases hx with hx | hx
    · rw [hx]; exact Nat.mod_lt _ (by decide)
    · exact ih _ x hx
theorem lv_padL {n v : Nat} (h : v < 1000000000 ^ n) : lv (padL n v) = v := by
  induction n generalizing v with
  | zero => simp at h; subst h; rfl
  | succ n ih =>
    rw [Nat.pow_succ] at h
    simp only [padL, lv]
    rw [ih (Nat.div_lt_of_lt_mul (by rw [Nat.mul_comm]; exact h))]
    omega
def I105 (xs ys : List Nat) (by_ k : Nat) (n : Nat) (s : St) : Prop := ∃ (i c : Nat) (zs : List Nat), n = ys.length - i ∧ i ≤ ys.length ∧ s = ⟨[(0, .own pinned), (1, L ys), (2, u32 by_), (3, i64 k), (8, .int .u64 c), (14, L ys), (15, i64 ys.length), (16, i64 i)], [(pinned, .row 94 1 (zs.map u32))]⟩ ∧ zs.length = xs.length ∧ ok zs ∧ c < 1000000000 ∧
    lv zs + 1000000000 ^ (k + i) * c = lv xs + 1000000000 ^ k * (by_ * lv (ys.take i))
def J105 (xs : List Nat) (v : Nat) (n : Nat) (s : St) : Prop := ∃ (k c : Nat) (zs : List Nat), n = xs.length + 1 - k ∧ s = ⟨[(0, .own pinned), (8, .int .u64 c), (12, i64 k)], [(pinned, .row 94 1 (zs.map u32))]⟩ ∧ k ≤ xs.length ∧ zs.length = xs.length ∧ ok zs ∧ c < 1000000000 ∧ lv zs + 1000000000 ^ k * c = v
theorem con105 {xs ys : List Nat} {by_ k : Nat} (hl : xs.length < 1000000000) (hx : ok xs) (hy : ok ys) (hb : by_ < 1000000000) (hk : k + ys.length ≤ xs.length) (hv : lv xs + 1000000000 ^ k * (by_ * lv ys) < 1000000000 ^ xs.length) :
    ConM Tryz.prog gs 105 94 1 (xs.map u32) [L ys, u32 by_, i64 k] ((padL xs.length (lv xs + 1000000000 ^ k * (by_ * lv ys))).map u32) := by
  refine e105 (by simp) ?_
  generalize hV : lv xs + 1000000000 ^ k * (by_ * lv ys) = V at *
  simp only [ic105, wkA, Nat.reduceEqDiff, Nat.reduceAdd, Nat.reduceSub, Nat.reduceLeDiff, Nat.reduceLT, Nat.reduceBEq, Nat.reduceBNe, reduceCtorEq, L, lenL, mapTake, mapDrop, List.drop_zero, Int.toNat_natCast, Int.toNat_zero, Nat.sub_zero, List.length_map]
  refine ⟨I105 xs ys by_ k, ys.length, _, Gh.refl _, ⟨0, 0, xs, rfl, Nat.zero_le _, rfl, rfl, hx, by omega, by simp [lv]⟩, ?_⟩
  rintro n s ⟨i, c, zs, rfl, hi, rfl, hzl, hz, hc, hzv⟩
  by_cases hlt : i < ys.length
  · have h0 : decide ((i : Int) < ys.length) = true := decide_eq_true (by omega)
    have e1 : IntKind.i64.wrap ((i : Int) + 1) = ((i + 1 : Nat) : Int) := by rw [wrap64] <;> omega
    have e2 : IntKind.i64.wrap ((k : Int) + i) = ((k + i : Nat) : Int) := by rw [wrap64] <;> omega
    have hg := ok_get hy i
    have hgz := ok_get hz (k + i)
    have e3 : IntKind.u64.wrap ((zs.getD (k + i) 0 : Nat) : Int) = ((zs.getD (k + i) 0 : Nat) : Int) := by rw [wrapU64] <;> omega
    have e4 : IntKind.u64.wrap ((ys.getD i 0 : Nat) : Int) = ((ys.getD i 0 : Nat) : Int) := by rw [wrapU64] <;> omega
    have e5 : IntKind.u64.wrap ((by_ : Nat) : Int) = ((by_ : Nat) : Int) := by rw [wrapU64] <;> omega
    have hm : ys.getD i 0 * by_ ≤ 999999999 * 999999999 := Nat.mul_le_mul (by omega) (by omega)
    have e6 : IntKind.u64.wrap (((ys.getD i 0 : Nat) : Int) * by_) = ((ys.getD i 0 * by_ : Nat) : Int) := by rw [wrapU64] <;> omega
    have e7 : IntKind.u64.wrap (((zs.getD (k + i) 0 : Nat) : Int) + ((ys.getD i 0 * by_ : Nat) : Int)) = ((zs.getD (k + i) 0 + ys.getD i 0 * by_ : Nat) : Int) := by rw [wrapU64] <;> omega
    have e8 : IntKind.u64.wrap (((zs.getD (k + i) 0 + ys.getD i 0 * by_ : Nat) : Int) + c) = ((zs.getD (k + i) 0 + ys.getD i 0 * by_ + c : Nat) : Int) := by rw [wrapU64] <;> omega
    simp only [ic105_2, ic105_1, wkA, Nat.reduceEqDiff, Nat.reduceAdd, Nat.reduceSub, Nat.reduceLeDiff, Nat.reduceLT, Nat.reduceBEq, Nat.reduceBNe, reduceCtorEq, L, lenL, mapTake, mapDrop, List.drop_zero, Int.toNat_natCast, Int.toNat_zero, Nat.sub_zero, List.length_map, h0, e1, e2, e3, e4, e5, e6, e7, e8, getL hlt, getL (show k + i < zs.length by omega), tdivB, tmodB]
    generalize hw : zs.getD (k + i) 0 + ys.getD i 0 * by_ + c = w
    have e9 : IntKind.u32.wrap ((w % 1000000000 : Nat) : Int) = ((w % 1000000000 : Nat) : Int) := by rw [wrap32] <;> omega
    have e10 : IntKind.u64.wrap ((w / 1000000000 : Nat) : Int) = ((w / 1000000000 : Nat) : Int) := by rw [wrapU64] <;> omega
    simp only [e9, e10, mapSet]
    refine ⟨⟨by omega, by omega⟩, ⟨by omega, by omega⟩, by omega, by omega, ⟨by omega, by omega⟩, by omega, by omega, _, ys.length - (i + 1), Gh.refl _, by omega, i + 1, w / 1000000000, zs.set (k + i) (w % 1000000000), rfl, by omega, rfl, by simpa using hzl, ok_set hz (Nat.mod_lt _ (by decide)), by omega, ?_⟩
    have q1 := lv_set (xs := zs) (k := k + i) (w % 1000000000) (by omega)
    have q2 : 1000000000 ^ (k + i) * w = 1000000000 ^ (k + i) * zs.getD (k + i) 0 + 1000000000 ^ (k + i) * (ys.getD i 0 * by_) + 1000000000 ^ (k + i) * c := by rw [← hw, Nat.mul_add, Nat.mul_add]
    have q3 : 1000000000 ^ (k + i) * w = 1000000000 ^ (k + i) * 1000000000 * (w / 1000000000) + 1000000000 ^ (k + i) * (w % 1000000000) := by
      conv => lhs; rw [← Nat.div_add_mod w 1000000000]
      rw [Nat.mul_add, Nat.mul_assoc]
    have q4 : 1000000000 ^ k * (by_ * lv (ys.take (i + 1))) = 1000000000 ^ k * (by_ * lv (ys.take i)) + 1000000000 ^ (k + i) * (ys.getD i 0 * by_) := by
      rw [lv_take_any, Nat.mul_add, Nat.mul_add, Nat.pow_add, Nat.mul_comm (ys.getD i 0) by_]
      congr 1
      rw [Nat.mul_assoc, ← Nat.mul_assoc by_, Nat.mul_comm by_ (1000000000 ^ i), Nat.mul_assoc]
    rw [q4, ← Nat.add_assoc, Nat.pow_succ]
    omega
  · have h0 : decide ((i : Int) < ys.length) = false := decide_eq_false (by omega)
    have e1 : IntKind.i64.wrap ((k : Int) + ys.length) = ((k + ys.length : Nat) : Int) := by rw [wrap64] <;> omega
    simp only [ic105_2, ic105_1, ic105_5, wkA, Nat.reduceEqDiff, Nat.reduceAdd, Nat.reduceSub, Nat.reduceLeDiff, Nat.reduceLT, Nat.reduceBEq, Nat.reduceBNe, reduceCtorEq, L, lenL, mapTake, mapDrop, List.drop_zero, Int.toNat_natCast, Int.toNat_zero, Nat.sub_zero, List.length_map, h0, e1]
    have hie : i = ys.length := by omega
    subst hie
    rw [List.take_length, hV] at hzv
    refine ⟨J105 xs V, xs.length + 1 - (k + ys.length), _, Gh.refl _, ⟨k + ys.length, c, zs, rfl, rfl, hk, hzl, hz, hc, hzv⟩, ?_⟩
    clear hzv hzl hz hc h0 e1 hV
    clear zs c
    rintro n s ⟨m, c, zs, rfl, rfl, hm, hzl, hz, hc, hzv⟩
    rcases Nat.eq_zero_or_pos c with h | h
    · subst h
      have h0 : decide (((0 : Nat) : Int) > 0) = false := decide_eq_false (by omega)
      simp only [ic105_4, wkA, Nat.reduceEqDiff, Nat.reduceAdd, Nat.reduceSub, Nat.reduceLeDiff, Nat.reduceLT, Nat.reduceBEq, Nat.reduceBNe, reduceCtorEq, L, lenL, mapTake, mapDrop, List.drop_zero, Int.toNat_natCast, Int.toNat_zero, Nat.sub_zero, List.length_map, h0]
      rw [Nat.mul_zero, Nat.add_zero] at hzv
      rw [← hzv, ← hzl, padL_lv hz]
    · have hmn : m < xs.length := by
        refine Nat.lt_of_not_le fun hle => ?_
        have : m = xs.length := by omega
        subst this
        have := Nat.mul_le_mul_left (1000000000 ^ xs.length) h
        omega
      have h0 : decide ((c : Int) > 0) = true := decide_eq_true (by omega)
      have e1 : IntKind.i64.wrap ((m : Int) + 1) = ((m + 1 : Nat) : Int) := by rw [wrap64] <;> omega
      have hgz := ok_get hz m
      have e3 : IntKind.u64.wrap ((zs.getD m 0 : Nat) : Int) = ((zs.getD m 0 : Nat) : Int) := by rw [wrapU64] <;> omega
      have e4 : IntKind.u64.wrap (((zs.getD m 0 : Nat) : Int) + c) = ((zs.getD m 0 + c : Nat) : Int) := by rw [wrapU64] <;> omega
      simp only [ic105_4, ic105_3, wkA, Nat.reduceEqDiff, Nat.reduceAdd, Nat.reduceSub, Nat.reduceLeDiff, Nat.reduceLT, Nat.reduceBEq, Nat.reduceBNe, reduceCtorEq, L, lenL, mapTake, mapDrop, List.drop_zero, Int.toNat_natCast, Int.toNat_zero, Nat.sub_zero, List.length_map, h0, e1, e3, e4, getL (show m < zs.length by omega), tdivB, tmodB]
      generalize hw : zs.getD m 0 + c = w
      have e9 : IntKind.u32.wrap ((w % 1000000000 : Nat) : Int) = ((w % 1000000000 : Nat) : Int) := by rw [wrap32] <;> omega
      have e10 : IntKind.u64.wrap ((w / 1000000000 : Nat) : Int) = ((w / 1000000000 : Nat) : Int) := by rw [wrapU64] <;> omega
      simp only [e9, e10, mapSet]
      refine ⟨⟨by omega, by omega⟩, by omega, by omega, ⟨by omega, by omega⟩, by omega, by omega, _, xs.length + 1 - (m + 1), Gh.refl _, by omega, m + 1, w / 1000000000, zs.set m (w % 1000000000), rfl, rfl, by omega, by simpa using hzl, ok_set hz (Nat.mod_lt _ (by decide)), by omega, ?_⟩
      have q1 := lv_set (xs := zs) (k := m) (w % 1000000000) (by omega)
      have q2 : 1000000000 ^ m * w = 1000000000 ^ m * zs.getD m 0 + 1000000000 ^ m * c := by rw [← hw, Nat.mul_add]
      have q3 : 1000000000 ^ m * w = 1000000000 ^ m * 1000000000 * (w / 1000000000) + 1000000000 ^ m * (w % 1000000000) := by
        conv => lhs; rw [← Nat.div_add_mod w 1000000000]
        rw [Nat.mul_add, Nat.mul_assoc]
      rw [Nat.pow_succ]
      omega
theorem callMF {f : FuncId} {i E sz : Nat} {xs args : List AV} {d : Option Nat} {K : St → Prop} {s : St} {xs' : List AV} (hc : ConM Tryz.prog gs f E sz xs args xs') (hk : K ((s.upd i (.row E sz xs')).putD d (.tup []))) : callM e0 f i E sz xs args d K s := ⟨xs', hc, hk⟩
theorem repL (n : Nat) : List.replicate n (AV.int .u32 0) = (List.replicate n 0).map u32 := by simp
theorem ok_rep (n : Nat) : ok (List.replicate n 0) := fun x hx => by rw [(List.mem_replicate.1 hx).2]; decide
theorem con96 {ys : List Nat} {by_ more : Nat} (hl : ys.length < 1000000) (hy : ok ys) (hb : by_ < 1000000000) (hm : more < 1000000000) : Fn 96 [L ys, u32 by_, u32 more] (L (limbs (lv ys * by_ + more))) := by
  refine e96 (by simp) ?_
  have e1 : IntKind.i64.wrap ((ys.length : Int) + 2) = ((ys.length + 2 : Nat) : Int) := by rw [wrap64] <;> omega
  simp only [ic96, wkA, Nat.reduceEqDiff, Nat.reduceAdd, Nat.reduceSub, Nat.reduceLeDiff, Nat.reduceLT, Nat.reduceBEq, Nat.reduceBNe, reduceCtorEq, L, lenL, mapTake, mapDrop, List.drop_zero, Int.toNat_natCast, Int.toNat_zero, Nat.sub_zero, List.length_map, e1]
  refine ⟨⟨by omega, by omega, by omega, by omega⟩, ?_⟩
  simp only [repL, wkA, Nat.reduceEqDiff, Nat.reduceAdd, Nat.reduceSub, Nat.reduceLeDiff, Nat.reduceLT, Nat.reduceBEq, Nat.reduceBNe, reduceCtorEq, L, lenL, mapTake, mapDrop, List.drop_zero, Int.toNat_natCast, Int.toNat_zero, Nat.sub_zero, List.length_map, List.length_replicate, mapSet]
  have hlv : lv ((List.replicate (ys.length + 2) 0).set 0 more) = more := by
    simp [List.replicate_succ, lv, lv_zeros]
  have hcon := con105 (xs := (List.replicate (ys.length + 2) 0).set 0 more) (ys := ys) (by_ := by_) (k := 0) (by simp; omega) (ok_set (ok_rep _) hm) hy hb (by simp) (by
    rw [hlv]
    have h1 := lv_lt hy
    have h2 : by_ * lv ys ≤ 999999999 * (1000000000 ^ ys.length - 1) := Nat.mul_le_mul (by omega) (by omega)
    simp only [List.length_set, List.length_replicate, Nat.pow_add, Nat.pow_zero, Nat.one_mul]
    have h3 : 0 < 1000000000 ^ ys.length := Nat.pow_pos (by decide)
    omega)
  rw [hlv] at hcon
  simp only [List.length_set, List.length_replicate, Nat.pow_zero, Nat.one_mul] at hcon
  refine ⟨by omega, by omega, callMF hcon ?_⟩
  simp only [wkA, Nat.reduceEqDiff, Nat.reduceAdd, Nat.reduceSub, Nat.reduceLeDiff, Nat.reduceLT, Nat.reduceBEq, Nat.reduceBNe, reduceCtorEq, L, lenL, mapTake, mapDrop, List.drop_zero, Int.toNat_natCast, Int.toNat_zero, Nat.sub_zero, List.length_map]
  refine callF (r := L (trim (padL (ys.length + 2) (more + by_ * lv ys)))) ?_ rfl ?_
  · exact con92 _ (by rw [padL_len]; omega)
  · simp only [wkA, Nat.reduceEqDiff, Nat.reduceAdd, Nat.reduceSub, Nat.reduceLeDiff, Nat.reduceLT, Nat.reduceBEq, Nat.reduceBNe, reduceCtorEq, L, lenL, mapTake, mapDrop, List.drop_zero, Int.toNat_natCast, Int.toNat_zero, Nat.sub_zero, List.length_map]
    rw [← limbs_lv (padL_ok _ _), lv_padL, Nat.add_comm, Nat.mul_comm]
    have h1 := lv_lt hy
    have h2 : by_ * lv ys ≤ 999999999 * (1000000000 ^ ys.length - 1) := Nat.mul_le_mul (by omega) (by omega)
    have h3 : 0 < 1000000000 ^ ys.length := Nat.pow_pos (by decide)
    rw [Nat.pow_add]
    omega
def AV.le (v v' : AV) : Prop := ∀ (C : Nat → Nat → Prop) (w : World) (u : Value), Rel C w v u → Rel C w v' u
theorem AV.le_refl (v : AV) : v.le v := fun _ _ _ h => h
theorem AV.le_nil (sz : Nat) : AV.nil.le (.sl sz []) := fun _ _ _ h => by cases h; exact .sl0 _ _ _ (by simp)
theorem AV.le_tup {vs vs' : List AV} (hl : vs.length = vs'.length) (h : ∀ (i : Nat) v v', vs[i]? = some v → vs'[i]? = some v' → v.le v') : (AV.tup vs).le (.tup vs') := fun C w u hr => by
  cases hr with
  | tup _ us hl2 h2 =>
    refine .tup vs' us (by omega) fun i v' u hv hu => ?_
    have hlt : i < vs.length := by rw [hl]; exact (List.getElem?_eq_some_iff.1 hv).1
    exact h i _ v' (List.getElem?_eq_getElem hlt) hv C w u (h2 i _ u (List.getElem?_eq_getElem hlt) hu)
theorem Fn.le {f : FuncId} {args : List AV} {r r' : AV} (h : Fn f args r) (hr : r.le r') : Fn f args r' := fun w C us h1 h2 h3 =>
  (h w C us h1 h2 h3).mono fun e w' ⟨u, C', q1, q2, q3, q4, q5⟩ => ⟨u, C', q1, q2, q3, q4, hr _ _ _ q5⟩
theorem Gh.le {t t' : List (Nat × AV)} {o : List (Nat × Ob)} (h : ∀ k v', look t' k = some v' → ∃ v, look t k = some v ∧ (v = v' ∨ (v.plain = true ∧ v'.plain = true ∧ v.le v'))) : Gh ⟨t, o⟩ ⟨t', o⟩ := by
  rintro X a w ⟨μ, C, hi⟩
  refine ⟨μ, C, ⟨fun k v' hk => ?_, hi.ob, hi.ap, hi.cw, hi.c0, hi.gr, hi.be, hi.sz, hi.df, hi.nw, hi.pn, hi.nb⟩⟩
  obtain ⟨v, hv, hor⟩ := h k v' hk
  obtain ⟨u, hu, hr⟩ := hi.tm k v hv
  rcases hor with rfl | ⟨h1, h2, h3⟩
  · exact ⟨u, hu, hr⟩
  · exact ⟨u, hu, .of_rel (h3 _ _ _ (hr.rel h1))⟩
inductive LeT : List (Nat × AV) → List (Nat × AV) → Prop
  | nil : LeT [] []
  | same (p : Nat × AV) {t t' : List (Nat × AV)} (h : LeT t t') : LeT (p :: t) (p :: t')
  | wk (k : Nat) {v v' : AV} {t t' : List (Nat × AV)} (h1 : v.plain = true) (h2 : v'.plain = true) (h3 : v.le v') (h : LeT t t') : LeT ((k, v) :: t) ((k, v') :: t')
theorem LeT.look {t t' : List (Nat × AV)} (h : LeT t t') : ∀ k v', F.look t' k = some v' → ∃ v, F.look t k = some v ∧ (v = v' ∨ (v.plain = true ∧ v'.plain = true ∧ v.le v')) := by
  induction h with
  | nil => intro k v' h; simp [F.look] at h
  | same p _ ih =>
    intro k v' hk
    simp only [F.look] at hk ⊢
    split at hk
    · rename_i e; rw [if_pos e]; exact ⟨v', hk, .inl rfl⟩
    · rename_i e; rw [if_neg e]; exact ih k v' hk
  | wk j h1 h2 h3 _ ih =>
    intro k v' hk
    simp only [F.look] at hk ⊢
    split at hk
    · rename_i e; rw [if_pos e]; injection hk with hk; subst hk; exact ⟨_, rfl, .inr ⟨h1, h2, h3⟩⟩
    · rename_i e; rw [if_neg e]; exact ih k v' hk
theorem Gh.leT {t t' : List (Nat × AV)} {o : List (Nat × Ob)} (h : LeT t t') : Gh ⟨t, o⟩ ⟨t', o⟩ := Gh.le h.look
def I77 (xs ys : List Nat) (n : Nat) (s : St) : Prop := ∃ (i : Nat) (zs : List Nat), n = ys.length - i ∧ i ≤ ys.length ∧ s = ⟨[(0, L xs), (5, .own 14), (15, L ys), (16, i64 ys.length), (17, i64 i)], [(14, .row 94 1 (zs.map u32))]⟩ ∧ zs.length = xs.length + ys.length + 1 ∧ ok zs ∧ lv zs = lv xs * lv (ys.take i)
theorem con77 {xs ys : List Nat} (hl : xs.length < 100000) (hl2 : ys.length < 100000) (hx : ok xs) (hy : ok ys) : Fn 77 [L xs, L ys] (L (limbs (lv xs * lv ys))) := by
  refine e77 (by simp) ?_
  have e1 : IntKind.i64.wrap ((xs.length : Int) + ys.length) = ((xs.length + ys.length : Nat) : Int) := by rw [wrap64] <;> omega
  have e2 : IntKind.i64.wrap (((xs.length + ys.length : Nat) : Int) + 1) = ((xs.length + ys.length + 1 : Nat) : Int) := by rw [wrap64] <;> omega
  simp only [ic77, wkA, Nat.reduceEqDiff, Nat.reduceAdd, Nat.reduceSub, Nat.reduceLeDiff, Nat.reduceLT, Nat.reduceBEq, Nat.reduceBNe, reduceCtorEq, L, lenL, mapTake, mapDrop, List.drop_zero, Int.toNat_natCast, Int.toNat_zero, Nat.sub_zero, List.length_map, e1, e2, repL]
  refine ⟨⟨by omega, by omega, by omega, by omega⟩, I77 xs ys, ys.length, _, Gh.refl _, ⟨0, List.replicate (xs.length + ys.length + 1) 0, rfl, Nat.zero_le _, rfl, by simp, ok_rep _, by simp [lv, lv_zeros]⟩, ?_⟩
  rintro n s ⟨i, zs, rfl, hi, rfl, hzl, hz, hv⟩
  by_cases hlt : i < ys.length
  · have h0 : decide ((i : Int) < ys.length) = true := decide_eq_true (by omega)
    have e1 : IntKind.i64.wrap ((i : Int) + 1) = ((i + 1 : Nat) : Int) := by rw [wrap64] <;> omega
    simp only [ic77_2, ic77_1, wkA, Nat.reduceEqDiff, Nat.reduceAdd, Nat.reduceSub, Nat.reduceLeDiff, Nat.reduceLT, Nat.reduceBEq, Nat.reduceBNe, reduceCtorEq, L, lenL, mapTake, mapDrop, List.drop_zero, Int.toNat_natCast, Int.toNat_zero, Nat.sub_zero, List.length_map, h0, getL hlt]
    have hbnd : lv zs + 1000000000 ^ i * (ys.getD i 0 * lv xs) = lv xs * lv (ys.take (i + 1)) := by
      rw [hv, lv_take_any, Nat.mul_add]
      congr 1
      rw [← Nat.mul_assoc, Nat.mul_comm]
    have h1 := lv_lt hx
    have h2 : lv (ys.take (i + 1)) < 1000000000 ^ (i + 1) := by
      have := lv_lt (ok_sub hy fun x hx => List.mem_of_mem_take hx : ok (ys.take (i + 1)))
      rwa [List.length_take, Nat.min_eq_left (by omega)] at this
    have hlt2 : lv xs * lv (ys.take (i + 1)) < 1000000000 ^ zs.length := by
      have h3 : lv xs * lv (ys.take (i + 1)) ≤ 1000000000 ^ xs.length * lv (ys.take (i + 1)) := Nat.mul_le_mul_right _ (by omega)
      have h4 : 1000000000 ^ xs.length * lv (ys.take (i + 1)) < 1000000000 ^ xs.length * 1000000000 ^ (i + 1) := Nat.mul_lt_mul_of_pos_left h2 (Nat.pow_pos (by decide))
      have h5 : 1000000000 ^ xs.length * 1000000000 ^ (i + 1) ≤ 1000000000 ^ zs.length := by rw [← Nat.pow_add]; exact Nat.pow_le_pow_right (by decide) (by omega)
      omega
    have hcon := con105 (xs := zs) (ys := xs) (by_ := ys.getD i 0) (k := i) (by omega) hz hx (ok_get hy i) (by omega) (by rw [hbnd]; exact hlt2)
    rw [hbnd] at hcon
    refine ⟨⟨by omega, by omega⟩, callMF hcon ?_⟩
    simp only [wkA, Nat.reduceEqDiff, Nat.reduceAdd, Nat.reduceSub, Nat.reduceLeDiff, Nat.reduceLT, Nat.reduceBEq, Nat.reduceBNe, reduceCtorEq, L, lenL, mapTake, mapDrop, List.drop_zero, Int.toNat_natCast, Int.toNat_zero, Nat.sub_zero, List.length_map, e1]
    exact ⟨_, ys.length - (i + 1), Gh.refl _, by omega, i + 1, _, rfl, by omega, rfl, by rw [padL_len]; exact hzl, padL_ok _ _, lv_padL hlt2⟩
  · have h0 : decide ((i : Int) < ys.length) = false := decide_eq_false (by omega)
    simp only [ic77_2, ic77_1, ic77_3, wkA, Nat.reduceEqDiff, Nat.reduceAdd, Nat.reduceSub, Nat.reduceLeDiff, Nat.reduceLT, Nat.reduceBEq, Nat.reduceBNe, reduceCtorEq, L, lenL, mapTake, mapDrop, List.drop_zero, Int.toNat_natCast, Int.toNat_zero, Nat.sub_zero, List.length_map, h0]
    refine callF (con92 zs (by omega)) rfl ?_
    simp only [wkA, Nat.reduceEqDiff, Nat.reduceAdd, Nat.reduceSub, Nat.reduceLeDiff, Nat.reduceLT, Nat.reduceBEq, Nat.reduceBNe, reduceCtorEq, L, lenL, mapTake, mapDrop, List.drop_zero, Int.toNat_natCast, Int.toNat_zero, Nat.sub_zero, List.length_map]
    rw [← limbs_lv hz, hv, List.take_of_length_le (by omega)]
def I136 (xs : List Nat) (b : Nat) (n : Nat) (s : St) : Prop := ∃ (qs : List Nat), n ≤ xs.length ∧ s = ⟨[(0, L xs), (1, u32 b), (4, .own 13), (7, .int .u64 ((lv (xs.drop n) % b : Nat) : Int)), (8, i64 ((n : Int) - 1))], [(13, .row 94 1 (qs.map u32))]⟩ ∧ qs.length = xs.length ∧ ok qs ∧ lv (qs.drop n) = lv (xs.drop n) / b
theorem lv_drop {xs : List Nat} {n : Nat} (h : n < xs.length) : lv (xs.drop n) = xs.getD n 0 + 1000000000 * lv (xs.drop (n + 1)) := by
  rw [List.drop_eq_getElem_cons h]
  simp [lv, List.getD_eq_getElem?_getD, h]
theorem con136 {xs : List Nat} {b : Nat} (hl : xs.length < 100000) (hx : ok xs) (h0 : 0 < b) (hb : b ≤ 1000000000) : Fn 136 [L xs, u32 b] (.tup [L (limbs (lv xs / b)), u32 (lv xs % b), .bool true]) := by
  refine e136 (by simp) ?_
  have e0 : ((b : Int) == 0) = false := by simp; omega
  have e1 : IntKind.i64.wrap ((xs.length : Int) - 1) = (xs.length : Int) - 1 := by rw [wrap64] <;> omega
  simp only [ic136, ic136_4, wkA, Nat.reduceEqDiff, Nat.reduceAdd, Nat.reduceSub, Nat.reduceLeDiff, Nat.reduceLT, Nat.reduceBEq, Nat.reduceBNe, reduceCtorEq, L, lenL, mapTake, mapDrop, List.drop_zero, Int.toNat_natCast, Int.toNat_zero, Nat.sub_zero, List.length_map, e0, e1, repL]
  refine ⟨⟨by omega, by omega, by omega, by omega⟩, I136 xs b, xs.length, _, Gh.refl _, ⟨List.replicate xs.length 0, Nat.le_refl _, by simp [lv, L], by simp, ok_rep _, by simp [lv]⟩, ?_⟩
  rintro n s ⟨qs, hn, rfl, hql, hq, hv⟩
  rcases n with _ | n
  · have h1 : decide (((0 : Nat) : Int) - 1 ≥ 0) = false := decide_eq_false (by omega)
    have hm := Nat.mod_lt (lv xs) h0
    have e2 : IntKind.u32.wrap ((lv xs % b : Nat) : Int) = ((lv xs % b : Nat) : Int) := by rw [wrap32] <;> omega
    simp only [List.drop_zero] at hv
    simp only [ic136_2, ic136_1, ic136_3, wkA, Nat.reduceEqDiff, Nat.reduceAdd, Nat.reduceSub, Nat.reduceLeDiff, Nat.reduceLT, Nat.reduceBEq, Nat.reduceBNe, reduceCtorEq, L, lenL, mapTake, mapDrop, List.drop_zero, Int.toNat_natCast, Int.toNat_zero, Nat.sub_zero, List.length_map, h1]
    refine callF (con92 qs (by omega)) rfl ?_
    simp only [wkA, Nat.reduceEqDiff, Nat.reduceAdd, Nat.reduceSub, Nat.reduceLeDiff, Nat.reduceLT, Nat.reduceBEq, Nat.reduceBNe, reduceCtorEq, L, lenL, mapTake, mapDrop, List.drop_zero, Int.toNat_natCast, Int.toNat_zero, Nat.sub_zero, List.length_map, e2]
    rw [← limbs_lv hq, hv]
  · have h1 : decide (((n + 1 : Nat) : Int) - 1 ≥ 0) = true := decide_eq_true (by omega)
    have e2 : ((n + 1 : Nat) : Int) - 1 = n := by omega
    have e3 : IntKind.i64.wrap ((n : Int) - 1) = (n : Int) - 1 := by rw [wrap64] <;> omega
    have hg := ok_get hx n
    have hm := Nat.mod_lt (lv (xs.drop (n + 1))) h0
    generalize hR : lv (xs.drop (n + 1)) = R at *
    have e4 : IntKind.u64.wrap (((R % b : Nat) : Int) * 1000000000) = ((R % b * 1000000000 : Nat) : Int) := by rw [wrapU64] <;> omega
    have e5 : IntKind.u64.wrap ((xs.getD n 0 : Nat) : Int) = ((xs.getD n 0 : Nat) : Int) := by rw [wrapU64] <;> omega
    obtain ⟨W, hW⟩ : ∃ W, W = R % b * 1000000000 + xs.getD n 0 := ⟨_, rfl⟩
    have e6 : IntKind.u64.wrap (((R % b * 1000000000 : Nat) : Int) + ((xs.getD n 0 : Nat) : Int)) = (W : Int) := by rw [wrapU64] <;> omega
    have e7 : IntKind.u64.wrap ((b : Nat) : Int) = b := by rw [wrapU64] <;> omega
    have hw : xs.getD n 0 + 1000000000 * R = W + b * (1000000000 * (R / b)) := by
      have := Nat.div_add_mod R b
      have h9 : 1000000000 * R = 1000000000 * (b * (R / b)) + 1000000000 * (R % b) := by rw [← Nat.mul_add, this]
      have h10 : 1000000000 * (b * (R / b)) = b * (1000000000 * (R / b)) := by rw [← Nat.mul_assoc, Nat.mul_comm 1000000000 b, Nat.mul_assoc]
      omega
    have hwb : W < b * 1000000000 := by
      have : R % b * 1000000000 ≤ (b - 1) * 1000000000 := Nat.mul_le_mul_right _ (by omega)
      omega
    have h1b : decide ((n : Int) ≥ 0) = true := decide_eq_true (by omega)
    simp only [ic136_2, ic136_1, wkA, Nat.reduceEqDiff, Nat.reduceAdd, Nat.reduceSub, Nat.reduceLeDiff, Nat.reduceLT, Nat.reduceBEq, Nat.reduceBNe, reduceCtorEq, L, lenL, mapTake, mapDrop, List.drop_zero, Int.toNat_natCast, Int.toNat_zero, Nat.sub_zero, List.length_map, h1, h1b, e2, e3, e4, e5, e6, e7, getL (show n < xs.length by omega)]
    have hdq : W / b < 1000000000 := Nat.div_lt_of_lt_mul hwb
    obtain ⟨D, hD⟩ : ∃ D, D = W / b := ⟨_, rfl⟩
    rw [← hD] at hdq
    have t1 : ((W : Nat) : Int).tdiv (b : Int) = (D : Int) := by rw [hD]; rfl
    have t2 : ((W : Nat) : Int).tmod (b : Int) = ((W % b : Nat) : Int) := rfl
    have e8 : IntKind.u64.wrap (D : Int) = (D : Int) := by rw [wrapU64] <;> omega
    have e9 : IntKind.u32.wrap (D : Int) = (D : Int) := by rw [wrap32] <;> omega
    simp only [t1, t2, e8, e9, mapSet]
    refine ⟨⟨by omega, by omega⟩, by omega, ⟨by omega, by omega⟩, by omega, by omega, _, n, Gh.refl _, by omega, qs.set n D, by omega, ?_, by simpa using hql, ok_set hq hdq, ?_⟩
    · rw [lv_drop (show n < xs.length by omega), hR, hw, Nat.add_mul_mod_self_left]; rfl
    · rw [lv_drop (show n < xs.length by omega), hR, hw, Nat.add_mul_div_left _ _ h0, lv_drop (show n < (qs.set n D).length by simp; omega), ← hD]
      have h11 : (qs.set n D).drop (n + 1) = qs.drop (n + 1) := by rw [List.drop_set_of_lt (by omega)]
      rw [h11, hv]
      simp [List.getD_eq_getElem?_getD, show n < qs.length by omega]
theorem limbs_len {n k : Nat} (h : n < 1000000000 ^ k) : (limbs n).length ≤ k := by
  refine Classical.not_not.1 fun hn => ?_
  have h1 : trim (limbs n) ≠ [] := by rw [trim_limbs]; intro e; rw [e] at hn; simp at hn
  have h2 := lv_ge h1
  rw [trim_limbs, lv_limbs] at h2
  have h3 : 1000000000 ^ k ≤ 1000000000 ^ ((limbs n).length - 1) := Nat.pow_le_pow_right (by decide) (by omega)
  omega
def I97 (rs bs : List Nat) (n : Nat) (s : St) : Prop := ∃ (lo hi : Nat), n = hi - lo ∧ lo < hi ∧ hi ≤ 1000000000 ∧ s = ⟨[(0, L rs), (1, L bs), (6, u32 lo), (7, u32 hi)], []⟩ ∧ lv bs * lo ≤ lv rs ∧ lv rs < lv bs * hi
theorem con97 {rs bs : List Nat} (hlr : rs.length < 100000) (hlb : bs.length < 100000) (hr : ok rs) (hb : ok bs) (h : lv rs < lv bs * 1000000000) : Fn 97 [L rs, L bs] (.tup [u32 (lv rs / lv bs), L (limbs (lv rs % lv bs))]) := by
  refine e97 (by simp) ?_
  have hb0 : 0 < lv bs := by
    rcases Nat.eq_zero_or_pos (lv bs) with h0 | h0
    · rw [h0] at h; omega
    · exact h0
  have hsm : ∀ m, m < 1000000000 → (limbs (lv bs * m)).length < 1000000 := by
    intro m hm
    have h1 := lv_lt hb
    have h2 : lv bs * m < 1000000000 ^ (bs.length + 1) := by
      rw [Nat.pow_succ]
      calc lv bs * m ≤ lv bs * 1000000000 := Nat.mul_le_mul_left _ (by omega)
        _ < _ := Nat.mul_lt_mul_of_pos_right h1 (by decide)
    have := limbs_len h2
    omega
  simp only [ic97, wkA, Nat.reduceEqDiff, Nat.reduceAdd, Nat.reduceSub, Nat.reduceLeDiff, Nat.reduceLT, Nat.reduceBEq, Nat.reduceBNe, reduceCtorEq, L, lenL, mapTake, mapDrop, List.drop_zero, Int.toNat_natCast, Int.toNat_zero, Nat.sub_zero, List.length_map]
  refine ⟨I97 rs bs, 1000000000, _, Gh.refl _, ⟨0, 1000000000, rfl, by omega, by omega, rfl, by omega, h⟩, ?_⟩
  rintro n s ⟨lo, hi, rfl, hlt, hhi, rfl, h1, h2⟩
  have e1 : IntKind.u32.wrap ((hi : Int) - lo) = ((hi - lo : Nat) : Int) := by rw [wrap32] <;> omega
  by_cases hc : hi - lo > 1
  · have h0 : decide (((hi - lo : Nat) : Int) > 1) = true := decide_eq_true (by omega)
    have e2 : IntKind.u32.wrap ((lo : Int) + hi) = ((lo + hi : Nat) : Int) := by rw [wrap32] <;> omega
    obtain ⟨m, hm⟩ : ∃ m, m = (lo + hi) / 2 := ⟨_, rfl⟩
    have t1 : ((lo + hi : Nat) : Int).tdiv 2 = (m : Int) := by rw [hm]; rfl
    have e3 : IntKind.u32.wrap (m : Int) = m := by rw [wrap32] <;> omega
    simp only [ic97_2, ic97_1, wkA, Nat.reduceEqDiff, Nat.reduceAdd, Nat.reduceSub, Nat.reduceLeDiff, Nat.reduceLT, Nat.reduceBEq, Nat.reduceBNe, reduceCtorEq, L, lenL, mapTake, mapDrop, List.drop_zero, Int.toNat_natCast, Int.toNat_zero, Nat.sub_zero, List.length_map, h0, e1, e2, t1, e3]
    refine ⟨by omega, callF (con96 (more := 0) (by omega) hb (by omega) (by omega) : Fn 96 [L bs, u32 m, u32 0] (L (limbs (lv bs * m)))) rfl ?_⟩
    simp only [wkA, Nat.reduceEqDiff, Nat.reduceAdd, Nat.reduceSub, Nat.reduceLeDiff, Nat.reduceLT, Nat.reduceBEq, Nat.reduceBNe, reduceCtorEq, L, lenL, mapTake, mapDrop, List.drop_zero, Int.toNat_natCast, Int.toNat_zero, Nat.sub_zero, List.length_map]
    refine callF (con74 (by have := hsm m (by omega); omega) (by omega) (ok_limbs _) hr) rfl ?_
    simp only [wkA, Nat.reduceEqDiff, Nat.reduceAdd, Nat.reduceSub, Nat.reduceLeDiff, Nat.reduceLT, Nat.reduceBEq, Nat.reduceBNe, reduceCtorEq, L, lenL, mapTake, mapDrop, List.drop_zero, Int.toNat_natCast, Int.toNat_zero, Nat.sub_zero, List.length_map, lv_limbs, Nat.add_zero]
    by_cases hle : lv bs * m ≤ lv rs
    · have h3 : decide (cmpI ((lv bs * m : Nat) : Int) (lv rs) ≤ 0) = true := decide_eq_true (by unfold cmpI; split <;> (try split) <;> omega)
      simp only [h3, wkA, Nat.reduceEqDiff, Nat.reduceAdd, Nat.reduceSub, Nat.reduceLeDiff, Nat.reduceLT, Nat.reduceBEq, Nat.reduceBNe, reduceCtorEq, L, lenL, mapTake, mapDrop, List.drop_zero, Int.toNat_natCast, Int.toNat_zero, Nat.sub_zero, List.length_map]
      exact ⟨_, hi - m, Gh.refl _, by omega, m, hi, rfl, by omega, hhi, rfl, hle, h2⟩
    · have h3 : decide (cmpI ((lv bs * m : Nat) : Int) (lv rs) ≤ 0) = false := decide_eq_false (by unfold cmpI; split <;> (try split) <;> omega)
      simp only [h3, wkA, Nat.reduceEqDiff, Nat.reduceAdd, Nat.reduceSub, Nat.reduceLeDiff, Nat.reduceLT, Nat.reduceBEq, Nat.reduceBNe, reduceCtorEq, L, lenL, mapTake, mapDrop, List.drop_zero, Int.toNat_natCast, Int.toNat_zero, Nat.sub_zero, List.length_map]
      exact ⟨_, m - lo, Gh.refl _, by omega, lo, m, rfl, by omega, by omega, rfl, h1, by omega⟩
  · have h0 : decide (((hi - lo : Nat) : Int) > 1) = false := decide_eq_false (by omega)
    have hhl : hi = lo + 1 := by omega
    subst hhl
    have hq : lv rs / lv bs = lo := by
      refine Nat.div_eq_of_lt_le ?_ ?_
      · rw [Nat.mul_comm]; exact h1
      · rw [Nat.mul_comm]; exact h2
    have hmd : lv rs % lv bs = lv rs - lv bs * lo := by
      have := Nat.div_add_mod (lv rs) (lv bs)
      rw [hq] at this
      omega
    simp only [ic97_2, ic97_1, ic97_3, wkA, Nat.reduceEqDiff, Nat.reduceAdd, Nat.reduceSub, Nat.reduceLeDiff, Nat.reduceLT, Nat.reduceBEq, Nat.reduceBNe, reduceCtorEq, L, lenL, mapTake, mapDrop, List.drop_zero, Int.toNat_natCast, Int.toNat_zero, Nat.sub_zero, List.length_map, h0, e1]
    refine callF (con96 (more := 0) (by omega) hb (by omega) (by omega) : Fn 96 [L bs, u32 lo, u32 0] (L (limbs (lv bs * lo)))) rfl ?_
    simp only [wkA, Nat.reduceEqDiff, Nat.reduceAdd, Nat.reduceSub, Nat.reduceLeDiff, Nat.reduceLT, Nat.reduceBEq, Nat.reduceBNe, reduceCtorEq, L, lenL, mapTake, mapDrop, List.drop_zero, Int.toNat_natCast, Int.toNat_zero, Nat.sub_zero, List.length_map]
    refine callF (con121 (by omega) (by have := hsm lo (by omega); omega) hr (ok_limbs _) (by rw [lv_limbs]; omega)) rfl ?_
    simp only [wkA, Nat.reduceEqDiff, Nat.reduceAdd, Nat.reduceSub, Nat.reduceLeDiff, Nat.reduceLT, Nat.reduceBEq, Nat.reduceBNe, reduceCtorEq, L, lenL, mapTake, mapDrop, List.drop_zero, Int.toNat_natCast, Int.toNat_zero, Nat.sub_zero, List.length_map, lv_limbs, Nat.add_zero, hq, hmd]
def I71 (xs bs : List Nat) (n : Nat) (s : St) : Prop := ∃ (qs : List Nat), n ≤ xs.length ∧ s = ⟨[(0, L xs), (1, L bs), (4, .own 15), (5, L (limbs (lv (xs.drop n) % lv bs))), (7, i64 ((n : Int) - 1))], [(15, .row 94 1 (qs.map u32))]⟩ ∧ qs.length = xs.length ∧ ok qs ∧ lv (qs.drop n) = lv (xs.drop n) / lv bs
theorem con71 {xs bs : List Nat} (hl : xs.length < 100000) (hlb : bs.length < 10000) (hx : ok xs) (hb : ok bs) (h0 : 0 < lv bs) : Fn 71 [L xs, L bs] (.tup [L (limbs (lv xs / lv bs)), L (limbs (lv xs % lv bs)), .bool true]) := by
  refine e71 (by simp) ?_
  simp only [ic71, wkA, Nat.reduceEqDiff, Nat.reduceAdd, Nat.reduceSub, Nat.reduceLeDiff, Nat.reduceLT, Nat.reduceBEq, Nat.reduceBNe, reduceCtorEq, L, lenL, mapTake, mapDrop, List.drop_zero, Int.toNat_natCast, Int.toNat_zero, Nat.sub_zero, List.length_map]
  refine callF (con92 bs (by omega)) rfl ?_
  have htl := trim_le bs
  have hlen : (trim bs).length ≠ 0 := by
    intro e
    have := List.eq_nil_of_length_eq_zero e
    rw [← lv_trim, this] at h0
    simp [lv] at h0
  have hob := ok_trim hb
  rw [← lv_trim bs] at h0 ⊢
  generalize trim bs = bs' at *
  have e0 : ((bs'.length : Int) == 0) = false := by rw [beq_eq_false_iff_ne]; omega
  have e1 : IntKind.i64.wrap ((xs.length : Int) - 1) = (xs.length : Int) - 1 := by rw [wrap64] <;> omega
  simp only [ic71_4, wkA, Nat.reduceEqDiff, Nat.reduceAdd, Nat.reduceSub, Nat.reduceLeDiff, Nat.reduceLT, Nat.reduceBEq, Nat.reduceBNe, reduceCtorEq, L, lenL, mapTake, mapDrop, List.drop_zero, Int.toNat_natCast, Int.toNat_zero, Nat.sub_zero, List.length_map, e0, e1, repL]
  refine ⟨⟨by omega, by omega, by omega, by omega⟩, I71 xs bs', xs.length, ⟨[(0, L xs), (1, L bs'), (4, .own 15), (5, L []), (7, i64 ((xs.length : Int) - 1))], [(15, .row 94 1 ((List.replicate xs.length 0).map u32))]⟩, Gh.leT (.same _ (.same _ (.same _ (.wk _ rfl rfl (AV.le_nil 1) (.same _ .nil))))), ⟨List.replicate xs.length 0, Nat.le_refl _, by simp [lv, limbs_zero], by simp, ok_rep _, by simp [lv]⟩, ?_⟩
  rintro n s ⟨qs, hn, rfl, hql, hq, hv⟩
  rcases n with _ | n
  · have h1 : decide (((0 : Nat) : Int) - 1 ≥ 0) = false := decide_eq_false (by omega)
    simp only [List.drop_zero] at hv
    simp only [ic71_2, ic71_1, ic71_3, wkA, Nat.reduceEqDiff, Nat.reduceAdd, Nat.reduceSub, Nat.reduceLeDiff, Nat.reduceLT, Nat.reduceBEq, Nat.reduceBNe, reduceCtorEq, L, lenL, mapTake, mapDrop, List.drop_zero, Int.toNat_natCast, Int.toNat_zero, Nat.sub_zero, List.length_map, h1]
    refine callF (con92 qs (by omega)) rfl ?_
    simp only [wkA, Nat.reduceEqDiff, Nat.reduceAdd, Nat.reduceSub, Nat.reduceLeDiff, Nat.reduceLT, Nat.reduceBEq, Nat.reduceBNe, reduceCtorEq, L, lenL, mapTake, mapDrop, List.drop_zero, Int.toNat_natCast, Int.toNat_zero, Nat.sub_zero, List.length_map]
    have hll : (limbs (lv xs % lv bs')).length < 1099511627776 := by
      have := limbs_len (Nat.lt_trans (Nat.mod_lt (lv xs) h0) (lv_lt hob))
      omega
    refine callF (con92 _ hll) rfl ?_
    simp only [wkA, Nat.reduceEqDiff, Nat.reduceAdd, Nat.reduceSub, Nat.reduceLeDiff, Nat.reduceLT, Nat.reduceBEq, Nat.reduceBNe, reduceCtorEq, L, lenL, mapTake, mapDrop, List.drop_zero, Int.toNat_natCast, Int.toNat_zero, Nat.sub_zero, List.length_map, trim_limbs]
    rw [← limbs_lv hq, hv]
  · have h1 : decide (((n + 1 : Nat) : Int) - 1 ≥ 0) = true := decide_eq_true (by omega)
    have e2 : ((n + 1 : Nat) : Int) - 1 = n := by omega
    have e3 : IntKind.i64.wrap ((n : Int) - 1) = (n : Int) - 1 := by rw [wrap64] <;> omega
    have hg := ok_get hx n
    have hm := Nat.mod_lt (lv (xs.drop (n + 1))) h0
    have hd := lv_drop (xs := xs) (n := n) (by omega)
    generalize hR : lv (xs.drop (n + 1)) = R at *
    generalize hbv : lv bs' = b at *
    have hll : (limbs (R % b)).length ≤ bs'.length := limbs_len (by rw [← hbv] at hm ⊢; exact Nat.lt_trans hm (lv_lt hob))
    have hok2 : ok (xs.getD n 0 :: limbs (R % b)) := fun x hx => by
      rcases List.mem_cons.1 hx with hx | hx
      · rw [hx]; exact hg
      · exact ok_limbs _ x hx
    have hlv2 : lv (xs.getD n 0 :: limbs (R % b)) = xs.getD n 0 + 1000000000 * (R % b) := by simp only [lv, lv_limbs]
    have h1b : decide ((n : Int) ≥ 0) = true := decide_eq_true (by omega)
    simp only [ic71_2, ic71_1, wkA, Nat.reduceEqDiff, Nat.reduceAdd, Nat.reduceSub, Nat.reduceLeDiff, Nat.reduceLT, Nat.reduceBEq, Nat.reduceBNe, reduceCtorEq, L, lenL, mapTake, mapDrop, List.drop_zero, Int.toNat_natCast, Int.toNat_zero, Nat.sub_zero, List.length_map, h1, h1b, e2, e3, getL (show n < xs.length by omega)]
    refine ⟨⟨by omega, by omega⟩, ⟨by omega, by omega⟩, callF (r := L (trim (xs.getD n 0 :: limbs (R % b)))) (con92 (xs.getD n 0 :: limbs (R % b)) (by simp; omega)) rfl ?_⟩
    have hw : xs.getD n 0 + 1000000000 * R = xs.getD n 0 + 1000000000 * (R % b) + b * (1000000000 * (R / b)) := by
      have := Nat.div_add_mod R b
      have h9 : 1000000000 * R = 1000000000 * (b * (R / b)) + 1000000000 * (R % b) := by rw [← Nat.mul_add, this]
      have h10 : 1000000000 * (b * (R / b)) = b * (1000000000 * (R / b)) := by rw [← Nat.mul_assoc, Nat.mul_comm 1000000000 b, Nat.mul_assoc]
      omega
    obtain ⟨W, hW⟩ : ∃ W, W = xs.getD n 0 + 1000000000 * (R % b) := ⟨_, rfl⟩
    rw [← limbs_lv hok2, hlv2, ← hW]
    rw [← hW] at hw
    have hwb : W < b * 1000000000 := by
      have : 1000000000 * (R % b) ≤ 1000000000 * (b - 1) := Nat.mul_le_mul_left _ (by omega)
      omega
    have hWl : (limbs W).length < 100000 := by
      have h5 : W < 1000000000 ^ (bs'.length + 1) := by
        rw [Nat.pow_succ]
        have := lv_lt hob
        rw [hbv] at this
        calc W < b * 1000000000 := hwb
          _ ≤ _ := Nat.mul_le_mul_right _ (by omega)
      have := limbs_len h5
      omega
    have hdq : W / b < 1000000000 := Nat.div_lt_of_lt_mul hwb
    have hc97 := con97 (rs := limbs W) (bs := bs') hWl (by omega) (ok_limbs _) hob (by rw [lv_limbs, hbv]; exact hwb)
    rw [lv_limbs, hbv] at hc97
    simp only [wkA, Nat.reduceEqDiff, Nat.reduceAdd, Nat.reduceSub, Nat.reduceLeDiff, Nat.reduceLT, Nat.reduceBEq, Nat.reduceBNe, reduceCtorEq, L, lenL, mapTake, mapDrop, List.drop_zero, Int.toNat_natCast, Int.toNat_zero, Nat.sub_zero, List.length_map]
    refine callF hc97 rfl ?_
    simp only [wkA, Nat.reduceEqDiff, Nat.reduceAdd, Nat.reduceSub, Nat.reduceLeDiff, Nat.reduceLT, Nat.reduceBEq, Nat.reduceBNe, reduceCtorEq, L, lenL, mapTake, mapDrop, List.drop_zero, Int.toNat_natCast, Int.toNat_zero, Nat.sub_zero, List.length_map, mapSet, e2, e3]
    refine ⟨⟨by omega, by omega⟩, by omega, _, n, Gh.refl _, by omega, qs.set n (W / b), by omega, ?_, by simpa using hql, ok_set hq hdq, ?_⟩
    · rw [hd, hw, hbv, Nat.add_mul_mod_self_left]; rfl
    · rw [hd, hw, hbv, Nat.add_mul_div_left _ _ h0, lv_drop (show n < (qs.set n (W / b)).length by simp; omega), List.drop_set_of_lt (by omega), hv]
      simp [List.getD_eq_getElem?_getD, show n < qs.length by omega]
theorem powAt {k : Nat} (h : k < 9) : [AV.int .u32 1, AV.int .u32 10, AV.int .u32 100, AV.int .u32 1000, AV.int .u32 10000, AV.int .u32 100000, AV.int .u32 1000000, AV.int .u32 10000000, AV.int .u32 100000000].getD k .top = u32 (10 ^ k) := by
  match k, h with
  | 0, _ | 1, _ | 2, _ | 3, _ | 4, _ | 5, _ | 6, _ | 7, _ | 8, _ => rfl
theorem tdiv9 (v : Nat) : (v : Int).tdiv 9 = ((v / 9 : Nat) : Int) := rfl
theorem tmod9 (v : Nat) : (v : Int).tmod 9 = ((v % 9 : Nat) : Int) := rfl
theorem pow10_lt {k : Nat} (h : k < 9) : 10 ^ k < 1000000000 := by
  match k, h with
  | 0, _ | 1, _ | 2, _ | 3, _ | 4, _ | 5, _ | 6, _ | 7, _ | 8, _ => decide
theorem pow10_split (n : Nat) : 10 ^ n = 1000000000 ^ (n / 9) * 10 ^ (n % 9) := by
  conv => lhs; rw [← Nat.div_add_mod n 9]
  rw [Nat.pow_add, Nat.pow_mul]
theorem core70 {xs : List Nat} {m : Int} {n : Nat} (hl : xs.length < 100000) (hn : n < 100000) (hx : ok xs) (h0 : lv xs ≠ 0) (e1 : (if m < 0 then (0 : Int) else m) = n) : Fn 70 [L xs, i64 m] (L (limbs (lv xs * 10 ^ n))) := by
  refine e70 (by simp) ?_
  simp only [ic70, wkA, Nat.reduceEqDiff, Nat.reduceAdd, Nat.reduceSub, Nat.reduceLeDiff, Nat.reduceLT, Nat.reduceBEq, Nat.reduceBNe, reduceCtorEq, L, lenL, mapTake, mapDrop, List.drop_zero, Int.toNat_natCast, Int.toNat_zero, Nat.sub_zero, List.length_map, e1]
  refine callF (con92 xs (by omega)) rfl ?_
  have htl := trim_le xs
  have hlen : (trim xs).length ≠ 0 := by
    intro e
    have := List.eq_nil_of_length_eq_zero e
    rw [← lv_trim, this] at h0
    simp [lv] at h0
  have hob := ok_trim hx
  rw [← lv_trim xs]
  generalize trim xs = ys at *
  have e0 : ((ys.length : Int) == 0) = false := by rw [beq_eq_false_iff_ne]; omega
  have e2 : IntKind.i64.wrap ((n / 9 : Nat) : Int) = ((n / 9 : Nat) : Int) := by rw [wrap64] <;> omega
  have hp := powAt (k := n % 9) (by omega)
  have hp2 := pow10_lt (k := n % 9) (by omega)
  simp only [ic70_1, wkA, Nat.reduceEqDiff, Nat.reduceAdd, Nat.reduceSub, Nat.reduceLeDiff, Nat.reduceLT, Nat.reduceBEq, Nat.reduceBNe, reduceCtorEq, L, lenL, mapTake, mapDrop, List.drop_zero, Int.toNat_natCast, Int.toNat_zero, Nat.sub_zero, List.length_map, e0, e2, tdiv9, tmod9, hp, repL, List.length_replicate]
  have hcon := con96 (ys := List.replicate (n / 9) 0 ++ ys) (by_ := 10 ^ (n % 9)) (more := 0) (by simp; omega) (ok_append.2 ⟨ok_rep _, hob⟩) hp2 (by omega)
  rw [lv_append, lv_zeros, List.length_replicate, Nat.zero_add, Nat.add_zero, Nat.mul_comm (1000000000 ^ (n / 9)), Nat.mul_assoc, ← pow10_split] at hcon
  simp only [L, List.map_append] at hcon
  refine ⟨by omega, ⟨by omega, by omega, by omega, by omega⟩, ⟨by omega, by omega⟩, by omega, ⟨by omega, by omega⟩, callFD hcon rfl ?_⟩
  simp only [wkA, Nat.reduceEqDiff, Nat.reduceAdd, Nat.reduceSub, Nat.reduceLeDiff, Nat.reduceLT, Nat.reduceBEq, Nat.reduceBNe, reduceCtorEq, L, lenL, mapTake, mapDrop, List.drop_zero, Int.toNat_natCast, Int.toNat_zero, Nat.sub_zero, List.length_map]
theorem core70z {xs : List Nat} {n : Int} (hl : xs.length < 100000) (hx : ok xs) (h0 : lv xs = 0) : Fn 70 [L xs, i64 n] .nil := by
  refine e70 (by simp) ?_
  simp only [ic70, wkA, Nat.reduceEqDiff, Nat.reduceAdd, Nat.reduceSub, Nat.reduceLeDiff, Nat.reduceLT, Nat.reduceBEq, Nat.reduceBNe, reduceCtorEq, L, lenL, mapTake, mapDrop, List.drop_zero, Int.toNat_natCast, Int.toNat_zero, Nat.sub_zero, List.length_map]
  refine callF (con92 xs (by omega)) rfl ?_
  rw [lv_zero_trim h0]
  have h1 : (((0 : Nat) : Int) == 0) = true := rfl
  simp only [ic70_1, wkA, Nat.reduceEqDiff, Nat.reduceAdd, Nat.reduceSub, Nat.reduceLeDiff, Nat.reduceLT, Nat.reduceBEq, Nat.reduceBNe, reduceCtorEq, L, lenL, mapTake, mapDrop, List.drop_zero, Int.toNat_natCast, Int.toNat_zero, Nat.sub_zero, List.length_map, h1]
theorem con70 {xs : List Nat} {n : Int} (hl : xs.length < 100000) (hn : n < 100000) (hx : ok xs) : Fn 70 [L xs, i64 n] (L (limbs (lv xs * 10 ^ n.toNat))) := by
  by_cases h0 : lv xs = 0
  · refine (core70z hl hx h0).le ?_
    rw [h0, Nat.zero_mul, limbs_zero]
    exact AV.le_nil 1
  · exact core70 hl (n := n.toNat) (by omega) hx h0 (by split <;> omega)
theorem callO {f : FuncId} {args : List AV} {t : Nat} {K : St → Prop} {s : St} {E sz : Nat} {xs : List AV} (hc : ConO Tryz.prog gs f args E sz xs) (hk : K (s.new t t (.row E sz xs) (.own t))) : callK e0 f args (some t) K s := .inr ⟨E, sz, xs, t, rfl, hc, hk⟩
theorem con106 {xs : List Nat} {n : Nat} (hl : xs.length < 100000) (hn : n < 100000) (hx : ok xs) : Fn 106 [L xs, i64 n] (.tup [L (limbs (lv xs / 10 ^ n)), L (limbs (lv xs % 10 ^ n))]) := by
  have e1 : (if (n : Int) < 0 then (0 : Int) else n) = n := by rw [if_neg]; omega
  have e2 : IntKind.i64.wrap ((n / 9 : Nat) : Int) = ((n / 9 : Nat) : Int) := by rw [wrap64] <;> omega
  by_cases hc : n / 9 > xs.length
  · have hlt : lv xs < 10 ^ n := by
      have h1 := lv_lt hx
      have h2 : 1000000000 ^ xs.length ≤ 1000000000 ^ (n / 9) := Nat.pow_le_pow_right (by decide) (by omega)
      have h3 : 1000000000 ^ (n / 9) * 1 ≤ 1000000000 ^ (n / 9) * 10 ^ (n % 9) := Nat.mul_le_mul_left _ (Nat.pow_pos (by decide))
      rw [← pow10_split] at h3
      omega
    rw [Nat.div_eq_of_lt hlt, Nat.mod_eq_of_lt hlt, limbs_zero, limbs_lv hx]
    refine Fn.le (r := .tup [.nil, L (trim xs)]) ?_ (AV.le_tup rfl fun i v v' h1 h2 => ?_)
    · refine e106 (by simp) ?_
      have h0 : decide (((n / 9 : Nat) : Int) > (xs.length : Int)) = true := decide_eq_true (by omega)
      simp only [ic106, ic106_1, wkA, Nat.reduceEqDiff, Nat.reduceAdd, Nat.reduceSub, Nat.reduceLeDiff, Nat.reduceLT, Nat.reduceBEq, Nat.reduceBNe, reduceCtorEq, L, lenL, mapTake, mapDrop, List.drop_zero, Int.toNat_natCast, Int.toNat_zero, Nat.sub_zero, List.length_map, e1, e2, tdiv9, h0]
      refine ⟨by omega, by omega, callF (con92 xs (by omega)) rfl ?_⟩
      simp only [wkA, Nat.reduceEqDiff, Nat.reduceAdd, Nat.reduceSub, Nat.reduceLeDiff, Nat.reduceLT, Nat.reduceBEq, Nat.reduceBNe, reduceCtorEq, L, lenL, mapTake, mapDrop, List.drop_zero, Int.toNat_natCast, Int.toNat_zero, Nat.sub_zero, List.length_map]
    · match i with
      | 0 => simp at h1 h2; subst h1; subst h2; exact AV.le_nil 1
      | 1 => simp at h1 h2; subst h1; subst h2; exact AV.le_refl _
      | _ + 2 => simp at h1
  · have hp := powAt (k := n % 9) (by omega)
    have hp2 := pow10_lt (k := n % 9) (by omega)
    have hpp : 0 < 10 ^ (n % 9) := Nat.pow_pos (by decide)
    have hsp := pow10_split n
    have h9 : n % 9 < 9 := by omega
    obtain ⟨k, hk⟩ : ∃ k, k = n / 9 := ⟨_, rfl⟩
    obtain ⟨p, hpe⟩ : ∃ p, p = 10 ^ (n % 9) := ⟨_, rfl⟩
    rw [← hk, ← hpe] at hsp
    rw [← hpe] at hp hp2 hpp
    rw [← hk] at hc e2
    rw [hsp]
    have hkl : k ≤ xs.length := by omega
    have hd1 : lv xs / (1000000000 ^ k * p) = lv (xs.drop k) / p := by
      have h1 := lv_split xs k hkl
      have h2 := lv_lt (ok_sub hx fun x h => List.mem_of_mem_take h : ok (xs.take k))
      rw [List.length_take, Nat.min_eq_left hkl] at h2
      rw [← Nat.div_div_eq_div_mul, h1, Nat.add_mul_div_left _ _ (Nat.pow_pos (by decide)), Nat.div_eq_of_lt h2, Nat.zero_add]
    have hd2 : lv xs % (1000000000 ^ k * p) = lv (xs.take k ++ [lv (xs.drop k) % p]) := by
      have h1 := lv_split xs k hkl
      have h2 := lv_lt (ok_sub hx fun x h => List.mem_of_mem_take h : ok (xs.take k))
      rw [List.length_take, Nat.min_eq_left hkl] at h2
      rw [Nat.mod_mul, h1, Nat.add_mul_div_left _ _ (Nat.pow_pos (by decide)), Nat.div_eq_of_lt h2, Nat.zero_add, Nat.add_mul_mod_self_left, Nat.mod_eq_of_lt h2, lv_append, lv_one, List.length_take, Nat.min_eq_left hkl]
    have hr := Nat.mod_lt (lv (xs.drop k)) hpp
    have htk : (xs.take k).length ≤ 100000 := by rw [List.length_take]; omega
    have hok : ok (xs.take k ++ [lv (xs.drop k) % p]) := ok_append.2 ⟨ok_sub hx fun x h => List.mem_of_mem_take h, ok_one.2 (by omega)⟩
    rw [hd1, hd2, limbs_lv hok]
    refine e106 (by simp) ?_
    have h0 : decide ((k : Int) > (xs.length : Int)) = false := decide_eq_false (by omega)
    have e3 : (if ((xs.length : Nat) : Int) < (k : Int) then ((xs.length : Nat) : Int) else (k : Int)) = (k : Int) := by rw [if_neg]; omega
    have e4 : (xs.drop k).take (xs.length - k) = xs.drop k := List.take_of_length_le (by simp)
    simp only [ic106, ic106_1, wkA, Nat.reduceEqDiff, Nat.reduceAdd, Nat.reduceSub, Nat.reduceLeDiff, Nat.reduceLT, Nat.reduceBEq, Nat.reduceBNe, reduceCtorEq, L, lenL, mapTake, mapDrop, List.drop_zero, Int.toNat_natCast, Int.toNat_zero, Nat.sub_zero, List.length_map, e1, e2, e3, e4, tdiv9, tmod9, h0, hp, ← hk]
    refine ⟨by omega, by omega, ⟨by omega, by omega, by omega⟩, by omega, ⟨by omega, by omega⟩, callFD (con136 (by simp; omega) (ok_sub hx fun x h => List.mem_of_mem_drop h) hpp (by omega)) rfl ?_⟩
    simp only [wkA, Nat.reduceEqDiff, Nat.reduceAdd, Nat.reduceSub, Nat.reduceLeDiff, Nat.reduceLT, Nat.reduceBEq, Nat.reduceBNe, reduceCtorEq, L, lenL, mapTake, mapDrop, List.drop_zero, Int.toNat_natCast, Int.toNat_zero, Nat.sub_zero, List.length_map]
    refine ⟨⟨by omega, by omega⟩, callO (con137 (xs.take k) (by simp; omega)) ?_⟩
    simp only [wkA, Nat.reduceEqDiff, Nat.reduceAdd, Nat.reduceSub, Nat.reduceLeDiff, Nat.reduceLT, Nat.reduceBEq, Nat.reduceBNe, reduceCtorEq, L, lenL, mapTake, mapDrop, List.drop_zero, Int.toNat_natCast, Int.toNat_zero, Nat.sub_zero, List.length_map]
    refine ⟨⟨by omega, by omega⟩, callF (r := L (trim (xs.take k ++ [lv (xs.drop k) % p]))) ?_ rfl ?_⟩
    · have := con92 (xs.take k ++ [lv (xs.drop k) % p]) (by simp; omega)
      simpa [L] using this
    · simp only [wkA, Nat.reduceEqDiff, Nat.reduceAdd, Nat.reduceSub, Nat.reduceLeDiff, Nat.reduceLT, Nat.reduceBEq, Nat.reduceBNe, reduceCtorEq, L, lenL, mapTake, mapDrop, List.drop_zero, Int.toNat_natCast, Int.toNat_zero, Nat.sub_zero, List.length_map]
noncomputable def ic64_1 : IC := (.block 1 (.seq (.reg [zE 17 15 2,zM 5 17] false [0,5,14] [14]) (.seq (.reg [zM 18 5,zA 19 (.bin .lss none (.t 18) (.c (.int .i32 48))),zM 20 19,zF 20 21 (.mv (.t 5)),zF 20 22 (.bin .gtr none (.t 21) (.c (.int .i32 57))),zA 23 (.pick (.t 20) (.c (.bool true)) (.t 22))] false [0,14,23] [14]) (.cond (.t 23) (.seq (.reg [zA 2 (.mv (.c .nil)),zA 3 (.mv (.c (.bool false)))] false [2,3] []) .ret) .skip))))
noncomputable def ic64_2 : IC := (.seq (.reg [⟨(some 15),(.raw (opOf Tryz.f64 4 0)),none,(.at 64 4 0)⟩,zE 16 15 0] false [0,14,15,16] [14]) (.seq (.cond (.t 16) .skip (.exit 0)) ic64_1))
noncomputable def ic64_3 : IC := (.block 5 (.seq (.reg [zE 39 37 2,zM 10 39] false [0,6,7,8,10,36] [36,49]) (.reg [zM 40 8,zA 41 (.bin .mul none (.t 40) (.c (.int .u32 10))),zM 42 10,zA 43 (.bin .sub none (.t 42) (.c (.int .i32 48))),zA 44 (.conv .u32 (.t 43)),zA 45 (.bin .add none (.t 41) (.t 44)),zM 8 45] false [0,6,7,8,36] [36,49])))
noncomputable def ic64_4 : IC := (.seq (.reg [⟨(some 37),(.raw (opOf Tryz.f64 14 0)),none,(.at 64 14 0)⟩,zE 38 37 0] false [0,6,7,8,36,37,38] [36,49]) (.seq (.cond (.t 38) .skip (.exit 4)) ic64_3))
noncomputable def ic64_5 : IC := (.reg [zM 46 6,zM 47 8,zA 48 (.lit false 94 1 [(.t 47)]),zA 49 (.app 94 1 4 (.t 46) (.t 48)),zM 6 49] false [0,6,7] [49])
noncomputable def ic64_6 : IC := (.reg [zM 28 7,zA 29 (.bin .sub none (.t 28) (.c (.int .i64 9))),zM 7 29] false [0,6,7] [49])
noncomputable def ic64_7 : IC := (.seq (.block 3 (.seq (.reg [zA 8 (.mv (.c (.int .u32 0)))] false [0,6,7,8] [49]) (.seq (.seq (.reg [zM 30 0,zM 31 7,zA 32 (.bin .sub none (.t 31) (.c (.int .i64 9))),zA 33 (.mx (.c (.int .i64 0)) (.t 32)),zM 34 7,zA 35 (.ss (.t 30) (some (.t 33)) (some (.t 34))),⟨(some 36),(.raw (opOf Tryz.f64 13 6)),none,(.at 64 13 6)⟩] false [0,6,7,8,36] [36,49]) (.block 4 (.loop ic64_4))) ic64_5))) ic64_6)
noncomputable def ic64_8 : IC := (.seq (.seq (.reg [zM 26 7,zA 27 (.bin .gtr none (.t 26) (.c (.int .i64 0)))] false [0,6,7,27] [49]) (.cond (.t 27) .skip (.exit 2))) ic64_7)
noncomputable def ic64_9 : IC := (.seq (.reg [zM 50 6,zA 51 (.call 92 [(.t 50,(some 1))]),zM 2 51,zA 3 (.mv (.c (.bool true)))] false [2,3] []) .ret)
noncomputable def ic64_10 : IC := (.seq (.reg [zA 6 (.mv (.c .nil))] false [0,6] [49]) (.seq (.seq (.reg [zM 24 0,zA 25 (.len true (.t 24)),zM 7 25] false [0,6,7] [49]) (.block 2 (.loop ic64_8))) ic64_9))
noncomputable def ic64_11 : IC := (.seq (.seq (.reg [zM 13 0,⟨(some 14),(.raw (opOf Tryz.f64 3 1)),none,(.at 64 3 1)⟩] false [0,14] [14]) (.block 0 (.loop ic64_2))) ic64_10)
noncomputable def ic64 : IC := (.seq (.reg [zA 2 (.mv (.c .nil)),zA 3 (.mv (.c (.bool false)))] false [0] []) (.seq (.seq (.reg [zM 11 0,zA 12 (.bin .eql none (.t 11) (.c (.str [])))] false [0,12] []) (.cond (.t 12) (.seq (.reg [zA 2 (.mv (.c .nil)),zA 3 (.mv (.c (.bool false)))] false [2,3] []) .ret) .skip)) ic64_11))
def kp64 : List (Nat × Keep) := [(0, ⟨[0], [], []⟩),
  (1, ⟨[0, 12], [], []⟩),
  (2, ⟨[2, 3], [], []⟩),
  (3, ⟨[0, 14], [14], [(1, .at 64 3 1)]⟩),
  (4, ⟨[0, 14, 15, 16], [14], [(0, .at 64 4 0)]⟩),
  (5, ⟨[0, 5, 14], [14], []⟩),
  (6, ⟨[0, 14, 23], [14], []⟩),
  (7, ⟨[2, 3], [], []⟩),
  (8, ⟨[0, 6], [49], []⟩),
  (9, ⟨[0, 6, 7], [49], []⟩),
  (10, ⟨[0, 6, 7, 27], [49], []⟩),
  (11, ⟨[0, 6, 7], [49], []⟩),
  (12, ⟨[0, 6, 7, 8], [49], []⟩),
  (13, ⟨[0, 6, 7, 8, 36], [36, 49], [(6, .at 64 13 6)]⟩),
  (14, ⟨[0, 6, 7, 8, 36, 37, 38], [36, 49], [(0, .at 64 14 0)]⟩),
  (15, ⟨[0, 6, 7, 8, 10, 36], [36, 49], []⟩),
  (16, ⟨[0, 6, 7, 8, 36], [36, 49], []⟩),
  (17, ⟨[0, 6, 7], [49], []⟩),
  (18, ⟨[2, 3], [], []⟩)]
theorem c64 : (Tryz.f64.body.bind fun c => compC Tryz.prog 52 [] kp64 c) = some ic64 := by kernel_rfl
theorem e64 {args : List AV} {r : AV} (ha : args.length ≤ 52) (h : VC e0 ic64 (retQ [(2, none), (3, none)] r) ⟨argT 0 args, []⟩) : Fn 64 args r := fn_of Tryz.func64 rfl (by kernel_rfl) c64 ha (by decide) h
noncomputable def ic103_1 : IC := (.seq (.block 1 (.seq (.reg [zM 7 5,zM 4 7] false [0,3,4,5] [3]) (.seq (.reg [zM 8 4,zA 9 (.bin .sub none (.c (.int .i64 8)) (.t 8)),zM 10 0,zA 11 (.bin .rem none (.t 10) (.c (.int .u32 10))),zA 12 (.bin .add none (.c (.int .u32 48)) (.t 11)),zA 13 (.conv .u8 (.t 12)),zA 14 (.ga 1 9 (.t 3) (.t 9)),zS 1 14 13] false [0,3,5] [3]) (.reg [zM 15 0,zA 16 (.bin .quo none (.t 15) (.c (.int .u32 10))),zM 0 16] false [0,3,5] [3])))) (.reg [zA 17 (.bin .add none (.t 5) (.c (.int .i64 1))),zM 5 17] false [0,3,5] [3]))
noncomputable def ic103_2 : IC := (.seq (.reg [zA 6 (.bin .lss none (.t 5) (.c (.int .i64 9)))] false [0,3,5,6] [3]) (.seq (.cond (.t 6) .skip (.exit 0)) ic103_1))
noncomputable def ic103_3 : IC := (.seq (.reg [⟨(some 18),(.raw (opOf Tryz.f103 8 0)),none,(.at 103 8 0)⟩,zA 19 (.b2s (.t 18)),zM 2 19] false [2] []) .ret)
noncomputable def ic103 : IC := (.seq (.reg [zA 2 (.mv (.c (.str [])))] false [0] []) (.seq (.reg [⟨(some 3),(.raw (opOf Tryz.f103 1 0)),none,(.at 103 1 0)⟩] false [0,3] [3]) (.seq (.seq (.reg [zI 5 0] false [0,3,5] [3]) (.block 0 (.loop ic103_2))) ic103_3)))
def kp103 : List (Nat × Keep) := [(0, ⟨[0], [], []⟩),
  (1, ⟨[0, 3], [3], [(0, .at 103 1 0)]⟩),
  (2, ⟨[0, 3, 5], [3], []⟩),
  (3, ⟨[0, 3, 5, 6], [3], []⟩),
  (4, ⟨[0, 3, 4, 5], [3], []⟩),
  (5, ⟨[0, 3, 5], [3], []⟩),
  (6, ⟨[0, 3, 5], [3], []⟩),
  (7, ⟨[0, 3, 5], [3], []⟩),
  (8, ⟨[2], [], [(0, .at 103 8 0)]⟩)]
theorem c103 : (Tryz.f103.body.bind fun c => compC Tryz.prog 20 [] kp103 c) = some ic103 := by kernel_rfl
theorem e103 {args : List AV} {r : AV} (ha : args.length ≤ 20) (h : VC e0 ic103 (retQ [(2, none)] r) ⟨argT 0 args, []⟩) : Fn 103 args r := fn_of Tryz.func103 rfl (by kernel_rfl) c103 ha (by decide) h
theorem relL_inv2 {C : Nat → Nat → Prop} {w : World} {x y : AV} {us : Array Value} (h : RelL C w [x, y] us.toList) : ∃ u v, us = #[u, v] ∧ Rel C w x u ∧ Rel C w y v := by
  obtain ⟨u, t, h1, h2, h3⟩ := h.cons_inv
  obtain ⟨v, t', h4, h5, h6⟩ := h3.cons_inv
  have h7 := h6.nil_inv
  subst h7 h4
  exact ⟨u, v, by cases us; simp_all, h2, h5⟩
theorem con93 (s : List UInt8) (h : s.length < 1099511627776) : Fn 93 [.str s, .str [48]] (.str (strip s)) := by
  intro w C us hC hG hr
  obtain ⟨u, v, rfl, h1, h2⟩ := relL_inv2 hr
  cases h1
  cases h2
  refine (Tryz.strings_TrimLeft_one ⟨s.toArray⟩ 48 (by decide) w).mono ?_
  rintro e w' ⟨rfl, rfl⟩
  exact ⟨_, C, rfl, Below.refl _ _, fun _ _ h => h, fun b o h => ⟨hC b o h, .inl h⟩, .str _⟩
theorem con94 (s : List UInt8) (h : s.length < 1099511627776) : Fn 94 [.str s, .str [48]] (.str (rstrip s)) := by
  intro w C us hC hG hr
  obtain ⟨u, v, rfl, h1, h2⟩ := relL_inv2 hr
  cases h1
  cases h2
  have hs : (⟨s.toArray⟩ : ByteArray).size = s.length := by simp [ByteArray.size]
  refine (Tryz.strings_TrimRight_one ⟨s.toArray⟩ 48 (by decide) w (by omega)).mono ?_
  rintro e w' ⟨rfl, rfl⟩
  exact ⟨_, C, rfl, Below.refl _ _, fun _ _ h => h, fun b o h => ⟨hC b o h, .inl h⟩, .str _⟩
theorem wrapI32' {x : Int} (h : -2147483648 ≤ x) (h' : x < 2147483648) : IntKind.i32.wrap x = x := by
  simp only [IntKind.wrap, IntKind.signed, IntKind.bits, Bool.true_and, decide_eq_true_eq, Nat.reduceSub, Int.reducePow, ge_iff_le]
  split <;> omega
theorem op64a : (opOf Tryz.f64 3 1).op = .range 9 (.tmp 13) ∧ (opOf Tryz.f64 3 1).dst = some 14 := ⟨by kernel_rfl, by kernel_rfl⟩
theorem op64b : (opOf Tryz.f64 4 0).op = .next (.tmp 14) true ∧ (opOf Tryz.f64 4 0).dst = some 15 := ⟨by kernel_rfl, by kernel_rfl⟩
theorem op64c : (opOf Tryz.f64 13 6).op = .range 9 (.tmp 35) ∧ (opOf Tryz.f64 13 6).dst = some 36 := ⟨by kernel_rfl, by kernel_rfl⟩
theorem op64d : (opOf Tryz.f64 14 0).op = .next (.tmp 36) true ∧ (opOf Tryz.f64 14 0).dst = some 37 := ⟨by kernel_rfl, by kernel_rfl⟩
theorem take_succ_get {s : List UInt8} {i : Nat} (h : i < s.length) : s.take (i + 1) = s.take i ++ [s.getD i 0] := by
  rw [List.take_add_one]; simp [List.getD_eq_getElem?_getD, h]
theorem dv_snoc (s : List UInt8) (c : UInt8) : dv (s ++ [c]) = dv s * 10 + (c.toNat - 48) := by
  rw [dv_append, dv_one]; simp
def I64a (s : List UInt8) (n : Nat) (st : St) : Prop := ∃ i, n = s.length - i ∧ i ≤ s.length ∧ st = ⟨[(0, .str s), (14, .box 14 0)], [(14, .iter s i)]⟩ ∧ dgs s = dgs (s.drop i)
def I64b (s : List UInt8) (n : Nat) (st : St) : Prop := ∃ (e : Int) (out : List Nat), n = e.toNat ∧ e = s.length - 9 * (out.length : Int) ∧ out.length ≤ s.length ∧ st = ⟨[(0, .str s), (6, .own 49), (7, i64 e)], [(49, .row 94 1 (out.map u32))]⟩ ∧ ok out ∧
  lv out + 1000000000 ^ out.length * dv (s.take e.toNat) = dv s
def I64c (s c : List UInt8) (e : Int) (out : List Nat) (n : Nat) (st : St) : Prop := ∃ i, n = c.length - i ∧ i ≤ c.length ∧ st = ⟨[(0, .str s), (6, .own 49), (7, i64 e), (8, u32 (dv (c.take i))), (36, .box 36 0)], [(36, .iter c i), (49, .row 94 1 (out.map u32))]⟩
theorem con64 {s : List UInt8} (hl : s.length < 1000000) (h : dgs s = true) (hn : s ≠ []) : Fn 64 [.str s] (.tup [L (limbs (dv s)), .bool true]) := by
  have e0' : (s == []) = false := beq_eq_false_iff_ne.2 hn
  refine e64 (by simp) ?_
  simp only [ic64, wkA, Nat.reduceEqDiff, Nat.reduceAdd, Nat.reduceSub, Nat.reduceLeDiff, Nat.reduceLT, Nat.reduceBEq, Nat.reduceBNe, reduceCtorEq, e0']
  simp only [ic64_11, wkA, Nat.reduceEqDiff, Nat.reduceAdd, Nat.reduceSub, Nat.reduceLeDiff, Nat.reduceLT, Nat.reduceBEq, Nat.reduceBNe, reduceCtorEq]
  refine raw_range (x := .t 13) (z := s) op64a.1 op64a.2 Tryz.underlying9 rfl rfl ?_
  simp only [wkA, Nat.reduceEqDiff, Nat.reduceAdd, Nat.reduceSub, Nat.reduceLeDiff, Nat.reduceLT, Nat.reduceBEq, Nat.reduceBNe, reduceCtorEq]
  refine ⟨I64a s, s.length, _, Gh.refl _, ⟨0, by omega, by omega, rfl, rfl⟩, ?_⟩
  rintro n st ⟨i, rfl, hi, rfl, hd⟩
  by_cases hlt : i < s.length
  · have hc := isDg_iff.1 (dgs_get h hlt)
    have hr := runeAt_ascii (z := s) (pos := i) (by omega)
    have c1 : decide ((((s.getD i 0).toNat : Nat) : Int) < 48) = false := decide_eq_false (by omega)
    have c2 : decide ((((s.getD i 0).toNat : Nat) : Int) > 57) = false := decide_eq_false (by omega)
    simp only [ic64_2, wkA, Nat.reduceEqDiff, Nat.reduceAdd, Nat.reduceSub, Nat.reduceLeDiff, Nat.reduceLT, Nat.reduceBEq, Nat.reduceBNe, reduceCtorEq]
    refine raw_next (x := .t 14) (i := 14) (z := s) (pos := i) op64b.1 op64b.2 rfl rfl rfl hlt ?_
    rw [hr]
    simp only [wkA, Nat.reduceEqDiff, Nat.reduceAdd, Nat.reduceSub, Nat.reduceLeDiff, Nat.reduceLT, Nat.reduceBEq, Nat.reduceBNe, reduceCtorEq]
    simp only [ic64_1, wkA, Nat.reduceEqDiff, Nat.reduceAdd, Nat.reduceSub, Nat.reduceLeDiff, Nat.reduceLT, Nat.reduceBEq, Nat.reduceBNe, reduceCtorEq, c1, c2]
    refine ⟨_, s.length - (i + 1), Gh.keep _ [0, 14] [14], by omega, i + 1, rfl, by omega, rfl, ?_⟩
    rw [h]
    exact (dgs_sub h (List.drop_subset _ _)).symm
  · simp only [ic64_2, wkA, Nat.reduceEqDiff, Nat.reduceAdd, Nat.reduceSub, Nat.reduceLeDiff, Nat.reduceLT, Nat.reduceBEq, Nat.reduceBNe, reduceCtorEq]
    refine raw_next_end (x := .t 14) (i := 14) (z := s) (pos := i) op64b.1 op64b.2 rfl rfl rfl hlt ?_
    simp only [wkA, Nat.reduceEqDiff, Nat.reduceAdd, Nat.reduceSub, Nat.reduceLeDiff, Nat.reduceLT, Nat.reduceBEq, Nat.reduceBNe, reduceCtorEq]
    simp only [ic64_10, wkA, Nat.reduceEqDiff, Nat.reduceAdd, Nat.reduceSub, Nat.reduceLeDiff, Nat.reduceLT, Nat.reduceBEq, Nat.reduceBNe, reduceCtorEq]
    refine ⟨I64b s, s.length, _, (Gh.own (t := 6) 94 1 49 rfl (by decide)).trans (Gh.keep _ [0, 6, 7] [49]), ⟨s.length, [], by simp, by simp, by simp, rfl, ok_nil, by simp [lv]⟩, ?_⟩
    rintro n st ⟨e, out, rfl, he, hol, rfl, hok, hv⟩
    by_cases hp : e > 0
    · have d1 : decide (e > 0) = true := decide_eq_true hp
      have w1 : IntKind.i64.wrap (e - 9) = e - 9 := by rw [wrap64] <;> omega
      have hmx : (if (0 : Int) < e - 9 then e - 9 else 0) = (((e - 9).toNat : Nat) : Int) := by split <;> omega
      simp only [ic64_8, wkA, Nat.reduceEqDiff, Nat.reduceAdd, Nat.reduceSub, Nat.reduceLeDiff, Nat.reduceLT, Nat.reduceBEq, Nat.reduceBNe, reduceCtorEq, d1]
      simp only [ic64_7, wkA, Nat.reduceEqDiff, Nat.reduceAdd, Nat.reduceSub, Nat.reduceLeDiff, Nat.reduceLT, Nat.reduceBEq, Nat.reduceBNe, reduceCtorEq, w1, hmx, Int.toNat_natCast]
      refine ⟨⟨by omega, by omega, by omega⟩, ?_⟩
      obtain ⟨k, hk⟩ : ∃ k, (e - 9).toNat = k := ⟨_, rfl⟩
      obtain ⟨c, hc⟩ : ∃ c, (s.drop (e - 9).toNat).take (e.toNat - (e - 9).toNat) = c := ⟨_, rfl⟩
      rw [hc]
      have hcl : c.length = e.toNat - (e - 9).toNat := by rw [← hc, List.length_take, List.length_drop]; omega
      have hcd : dgs c = true := dgs_sub h fun x hx => by rw [← hc] at hx; exact List.drop_subset _ _ (List.take_subset _ _ hx)
      have hsp : s.take e.toNat = s.take (e - 9).toNat ++ c := by
        rw [← hc]
        have : e.toNat = (e - 9).toNat + (e.toNat - (e - 9).toNat) := by omega
        rw [this, List.take_add, show (e - 9).toNat + (e.toNat - (e - 9).toNat) - (e - 9).toNat = e.toNat - (e - 9).toNat by omega]
      refine raw_range (x := .t 35) (z := c) op64c.1 op64c.2 Tryz.underlying9 rfl rfl ?_
      simp only [wkA, Nat.reduceEqDiff, Nat.reduceAdd, Nat.reduceSub, Nat.reduceLeDiff, Nat.reduceLT, Nat.reduceBEq, Nat.reduceBNe, reduceCtorEq]
      refine ⟨I64c s c e out, c.length, _, Gh.refl _, ⟨0, by omega, by omega, by simp [dv]⟩, ?_⟩
      rintro n st ⟨j, rfl, hj, rfl⟩
      by_cases hjl : j < c.length
      · have hcj := isDg_iff.1 (dgs_get hcd hjl)
        have hr := runeAt_ascii (z := c) (pos := j) (by omega)
        have hlt9 : dv (c.take j) < 100000000 := by
          have := dv_lt (dgs_sub hcd (List.take_subset j c))
          have h2 : 10 ^ (c.take j).length ≤ 10 ^ 8 := Nat.pow_le_pow_right (by decide) (by rw [List.length_take]; omega)
          omega
        have w2 : IntKind.u32.wrap (((dv (c.take j) : Nat) : Int) * 10) = ((dv (c.take j) * 10 : Nat) : Int) := by rw [wrap32] <;> omega
        have w3 : IntKind.i32.wrap ((((c.getD j 0).toNat : Nat) : Int) - 48) = (((c.getD j 0).toNat - 48 : Nat) : Int) := by rw [wrapI32'] <;> omega
        have w4 : IntKind.u32.wrap (((c.getD j 0).toNat - 48 : Nat) : Int) = (((c.getD j 0).toNat - 48 : Nat) : Int) := by rw [wrap32] <;> omega
        have w5 : IntKind.u32.wrap (((dv (c.take j) * 10 : Nat) : Int) + (((c.getD j 0).toNat - 48 : Nat) : Int)) = ((dv (c.take j) * 10 + ((c.getD j 0).toNat - 48) : Nat) : Int) := by rw [wrap32] <;> omega
        simp only [ic64_4, wkA, Nat.reduceEqDiff, Nat.reduceAdd, Nat.reduceSub, Nat.reduceLeDiff, Nat.reduceLT, Nat.reduceBEq, Nat.reduceBNe, reduceCtorEq]
        refine raw_next (x := .t 36) (i := 36) (z := c) (pos := j) op64d.1 op64d.2 rfl rfl rfl hjl ?_
        rw [hr]
        simp only [wkA, Nat.reduceEqDiff, Nat.reduceAdd, Nat.reduceSub, Nat.reduceLeDiff, Nat.reduceLT, Nat.reduceBEq, Nat.reduceBNe, reduceCtorEq]
        simp only [ic64_3, wkA, Nat.reduceEqDiff, Nat.reduceAdd, Nat.reduceSub, Nat.reduceLeDiff, Nat.reduceLT, Nat.reduceBEq, Nat.reduceBNe, reduceCtorEq, w2, w3, w4, w5]
        refine ⟨_, c.length - (j + 1), Gh.refl _, by omega, j + 1, rfl, by omega, ?_⟩
        rw [take_succ_get hjl, dv_snoc]
      · have hje : c.take j = c := List.take_of_length_le (by omega)
        have hc9 : dv c < 1000000000 := by
          have := dv_lt hcd
          have h2 : 10 ^ c.length ≤ 10 ^ 9 := Nat.pow_le_pow_right (by decide) (by omega)
          omega
        rw [hje]
        simp only [ic64_4, wkA, Nat.reduceEqDiff, Nat.reduceAdd, Nat.reduceSub, Nat.reduceLeDiff, Nat.reduceLT, Nat.reduceBEq, Nat.reduceBNe, reduceCtorEq]
        refine raw_next_end (x := .t 36) (i := 36) (z := c) (pos := j) op64d.1 op64d.2 rfl rfl rfl hjl ?_
        simp only [wkA, Nat.reduceEqDiff, Nat.reduceAdd, Nat.reduceSub, Nat.reduceLeDiff, Nat.reduceLT, Nat.reduceBEq, Nat.reduceBNe, reduceCtorEq]
        simp only [ic64_5, wkA, Nat.reduceEqDiff, Nat.reduceAdd, Nat.reduceSub, Nat.reduceLeDiff, Nat.reduceLT, Nat.reduceBEq, Nat.reduceBNe, reduceCtorEq, List.length_map]
        refine ⟨⟨by omega, by omega⟩, ?_⟩
        simp only [ic64_6, wkA, Nat.reduceEqDiff, Nat.reduceAdd, Nat.reduceSub, Nat.reduceLeDiff, Nat.reduceLT, Nat.reduceBEq, Nat.reduceBNe, reduceCtorEq, w1]
        refine ⟨_, (e - 9).toNat, Gh.refl _, by omega, e - 9, out ++ [dv c], rfl, by simp; omega, by simp; omega, by simp, ok_append.2 ⟨hok, ok_one.2 hc9⟩, ?_⟩
        have key : dv (s.take (e - 9).toNat) * 10 ^ c.length = 1000000000 * dv (s.take (e - 9).toNat) := by
          by_cases h9 : 9 ≤ e
          · have : c.length = 9 := by omega
            rw [this, Nat.mul_comm]
          · have hz : (e - 9).toNat = 0 := by omega
            have h0 : dv (s.take (e - 9).toNat) = 0 := by rw [hz, List.take_zero]; rfl
            rw [h0, Nat.zero_mul, Nat.mul_zero]
        rw [hsp, dv_append, key] at hv
        rw [lv_append, lv_one, List.length_append, List.length_singleton, Nat.pow_succ, ← hv, Nat.mul_add, Nat.mul_assoc]
        generalize 1000000000 ^ out.length * dv c = X
        generalize 1000000000 ^ out.length * (1000000000 * dv (s.take (e - 9).toNat)) = Y
        omega
    · have d1 : decide (e > 0) = false := decide_eq_false hp
      have hz : e.toNat = 0 := by omega
      rw [hz, List.take_zero] at hv
      have hv' : lv out = dv s := by simpa [dv] using hv
      have c92 := con92 out (by omega)
      rw [← limbs_lv hok, hv'] at c92
      simp only [L] at c92
      simp only [ic64_8, wkA, Nat.reduceEqDiff, Nat.reduceAdd, Nat.reduceSub, Nat.reduceLeDiff, Nat.reduceLT, Nat.reduceBEq, Nat.reduceBNe, reduceCtorEq, d1]
      simp only [ic64_9, wkA, Nat.reduceEqDiff, Nat.reduceAdd, Nat.reduceSub, Nat.reduceLeDiff, Nat.reduceLT, Nat.reduceBEq, Nat.reduceBNe, reduceCtorEq]
      refine callF c92 rfl ?_
      simp only [wkA, Nat.reduceEqDiff, Nat.reduceAdd, Nat.reduceSub, Nat.reduceLeDiff, Nat.reduceLT, Nat.reduceBEq, Nat.reduceBNe, reduceCtorEq]
      rfl
theorem con64_no {s : List UInt8} (hl : s.length < 1000000) (h : dgs s = false ∨ s = []) : Fn 64 [.str s] (.tup [.nil, .bool false]) := by
  refine e64 (by simp) ?_
  by_cases hn : s = []
  · have e0' : (s == []) = true := by rw [hn]; rfl
    simp only [ic64, wkA, Nat.reduceEqDiff, Nat.reduceAdd, Nat.reduceSub, Nat.reduceLeDiff, Nat.reduceLT, Nat.reduceBEq, Nat.reduceBNe, reduceCtorEq, e0']
  · have h := h.resolve_right hn
    have e0' : (s == []) = false := beq_eq_false_iff_ne.2 hn
    simp only [ic64, wkA, Nat.reduceEqDiff, Nat.reduceAdd, Nat.reduceSub, Nat.reduceLeDiff, Nat.reduceLT, Nat.reduceBEq, Nat.reduceBNe, reduceCtorEq, e0']
    simp only [ic64_11, wkA, Nat.reduceEqDiff, Nat.reduceAdd, Nat.reduceSub, Nat.reduceLeDiff, Nat.reduceLT, Nat.reduceBEq, Nat.reduceBNe, reduceCtorEq]
    refine raw_range (x := .t 13) (z := s) op64a.1 op64a.2 Tryz.underlying9 rfl rfl ?_
    simp only [wkA, Nat.reduceEqDiff, Nat.reduceAdd, Nat.reduceSub, Nat.reduceLeDiff, Nat.reduceLT, Nat.reduceBEq, Nat.reduceBNe, reduceCtorEq]
    refine ⟨I64a s, s.length, _, Gh.refl _, ⟨0, by omega, by omega, rfl, rfl⟩, ?_⟩
    rintro n st ⟨i, rfl, hi, rfl, hd⟩
    rw [h] at hd
    by_cases hlt : i < s.length
    · simp only [ic64_2, wkA, Nat.reduceEqDiff, Nat.reduceAdd, Nat.reduceSub, Nat.reduceLeDiff, Nat.reduceLT, Nat.reduceBEq, Nat.reduceBNe, reduceCtorEq]
      refine raw_next (x := .t 14) (i := 14) (z := s) (pos := i) op64b.1 op64b.2 rfl rfl rfl hlt ?_
      by_cases hg : isDg (s.getD i 0) = true
      · have hc := isDg_iff.1 hg
        have hr := runeAt_ascii (z := s) (pos := i) (by omega)
        have c1 : decide ((((s.getD i 0).toNat : Nat) : Int) < 48) = false := decide_eq_false (by omega)
        have c2 : decide ((((s.getD i 0).toNat : Nat) : Int) > 57) = false := decide_eq_false (by omega)
        rw [hr]
        simp only [wkA, Nat.reduceEqDiff, Nat.reduceAdd, Nat.reduceSub, Nat.reduceLeDiff, Nat.reduceLT, Nat.reduceBEq, Nat.reduceBNe, reduceCtorEq]
        simp only [ic64_1, wkA, Nat.reduceEqDiff, Nat.reduceAdd, Nat.reduceSub, Nat.reduceLeDiff, Nat.reduceLT, Nat.reduceBEq, Nat.reduceBNe, reduceCtorEq, c1, c2]
        refine ⟨_, s.length - (i + 1), Gh.keep _ [0, 14] [14], by omega, i + 1, rfl, by omega, rfl, ?_⟩
        have hg' : isDg s[i] = true := by
          rw [List.getD_eq_getElem?_getD, List.getElem?_eq_getElem hlt] at hg
          exact hg
        have hsame : dgs (s[i] :: s.drop (i + 1)) = dgs (s.drop (i + 1)) := by unfold dgs; rw [List.all_cons, hg', Bool.true_and]
        rw [List.drop_eq_getElem_cons hlt, hsame] at hd
        rw [h]
        exact hd
      · have hc : ¬ (48 ≤ (s.getD i 0).toNat ∧ (s.getD i 0).toNat ≤ 57) := fun hh => hg (isDg_iff.2 hh)
        have hbad : (runeAt s i).1 < 48 ∨ 57 < (runeAt s i).1 := by
          by_cases ha : (s.getD i 0).toNat < 128
          · rw [runeAt_ascii ha]; simp only; omega
          · exact .inr (by have := runeAt_big (z := s) (pos := i) (by omega); omega)
        generalize runeAt s i = q at *
        by_cases h1 : q.1 < 48
        · have c1 : decide (((q.1 : Nat) : Int) < 48) = true := decide_eq_true (by omega)
          simp only [wkA, Nat.reduceEqDiff, Nat.reduceAdd, Nat.reduceSub, Nat.reduceLeDiff, Nat.reduceLT, Nat.reduceBEq, Nat.reduceBNe, reduceCtorEq]
          simp only [ic64_1, wkA, Nat.reduceEqDiff, Nat.reduceAdd, Nat.reduceSub, Nat.reduceLeDiff, Nat.reduceLT, Nat.reduceBEq, Nat.reduceBNe, reduceCtorEq, c1]
        · have c1 : decide (((q.1 : Nat) : Int) < 48) = false := decide_eq_false (by omega)
          have c2 : decide (((q.1 : Nat) : Int) > 57) = true := decide_eq_true (by omega)
          simp only [wkA, Nat.reduceEqDiff, Nat.reduceAdd, Nat.reduceSub, Nat.reduceLeDiff, Nat.reduceLT, Nat.reduceBEq, Nat.reduceBNe, reduceCtorEq]
          simp only [ic64_1, wkA, Nat.reduceEqDiff, Nat.reduceAdd, Nat.reduceSub, Nat.reduceLeDiff, Nat.reduceLT, Nat.reduceBEq, Nat.reduceBNe, reduceCtorEq, c1, c2]
    · have : s.drop i = [] := List.drop_of_length_le (by omega)
      rw [this] at hd
      cases hd
theorem op103a : (opOf Tryz.f103 1 0).op = .alloc 163 ∧ (opOf Tryz.f103 1 0).dst = some 3 := ⟨by kernel_rfl, by kernel_rfl⟩
theorem op103b : (opOf Tryz.f103 8 0).op = .slice 163 (.tmp 3) none none none ∧ (opOf Tryz.f103 8 0).dst = some 18 := ⟨by kernel_rfl, by kernel_rfl⟩
theorem info163 : (Tryz.prog.info? 163).map (·.zero) = some (some (.agg (List.replicate 9 (.int .u8 0)).toArray)) := by kernel_rfl
theorem info5s : (Tryz.prog.info? 5).isSome = true := by kernel_rfl
def dl (n : Nat) : Nat → List UInt8
  | 0 => []
  | k + 1 => dc (n / 10 ^ k % 10) :: dl n k
theorem dl_len (n k : Nat) : (dl n k).length = k := by
  induction k with
  | zero => rfl
  | succ k ih => simp [dl, ih]
theorem dl_dgs (n k : Nat) : dgs (dl n k) = true := by
  induction k with
  | zero => rfl
  | succ k ih => exact dgs_cons.2 ⟨isDg_dc (Nat.mod_lt _ (by decide)), ih⟩
theorem dl_dv (n k : Nat) : dv (dl n k) = n % 10 ^ k := by
  induction k with
  | zero => simp [dl, dv, Nat.mod_one]
  | succ k ih =>
    rw [dl, dv, ih, dl_len, dc_nat (Nat.mod_lt _ (by decide)), Nat.mod_pow_succ, Nat.add_comm]
    congr 1
    rw [Nat.mul_comm, Nat.add_sub_cancel_left]
theorem dl_splice (n k : Nat) (h : k < 9) : splice ((List.replicate (9 - k) 0 ++ dl n k).map byteAV) (8 - k) [byteAV (dc (n / 10 ^ k % 10))] = (List.replicate (9 - (k + 1)) 0 ++ dl n (k + 1)).map byteAV := by
  have h1 : List.replicate (9 - k) (0 : UInt8) = List.replicate (8 - k) 0 ++ [0] := by
    rw [show 9 - k = (8 - k) + 1 by omega, List.replicate_succ']
  have hl : (List.replicate (8 - k) (0 : UInt8) ++ [0] ++ dl n k).map byteAV = (List.replicate (8 - k) (0 : UInt8)).map byteAV ++ byteAV 0 :: (dl n k).map byteAV := by simp
  have hr : (List.replicate (8 - k) (0 : UInt8) ++ dc (n / 10 ^ k % 10) :: dl n k).map byteAV = (List.replicate (8 - k) (0 : UInt8)).map byteAV ++ byteAV (dc (n / 10 ^ k % 10)) :: (dl n k).map byteAV := by simp
  rw [h1, hl, show 9 - (k + 1) = 8 - k by omega, dl, hr]
  have hA : ((List.replicate (8 - k) (0 : UInt8)).map byteAV).length = 8 - k := by simp
  generalize (List.replicate (8 - k) (0 : UInt8)).map byteAV = A at *
  generalize (dl n k).map byteAV = B
  unfold splice
  have h3 : A ++ byteAV 0 :: B = (A ++ [byteAV 0]) ++ B := by simp
  rw [List.take_left' hA, h3, List.drop_left' (by simp [hA])]
  simp
def I103 (n : Nat) (m : Nat) (st : St) : Prop := ∃ k, m = 9 - k ∧ k ≤ 9 ∧ st = ⟨[(0, u32 (n / 10 ^ k)), (3, .box 3 0), (5, i64 k)], [(3, .box 163 ((List.replicate (9 - k) 0 ++ dl n k).map byteAV))]⟩
theorem con103 {n : Nat} (hn : n < 4294967296) : Fn 103 [u32 n] (.str (dl n 9)) := by
  refine e103 (by simp) ?_
  simp only [ic103, wkA, Nat.reduceEqDiff, Nat.reduceAdd, Nat.reduceSub, Nat.reduceLeDiff, Nat.reduceLT, Nat.reduceBEq, Nat.reduceBNe, reduceCtorEq]
  refine raw_alloc (cs := List.replicate 9 (.int .u8 0)) op103a.1 op103a.2 info163 (by kernel_rfl) ?_
  simp only [wkA, Nat.reduceEqDiff, Nat.reduceAdd, Nat.reduceSub, Nat.reduceLeDiff, Nat.reduceLT, Nat.reduceBEq, Nat.reduceBNe, reduceCtorEq]
  refine ⟨I103 n, 9, _, Gh.refl _, ⟨0, by omega, by omega, ?_⟩, ?_⟩
  · rw [Nat.pow_zero, Nat.div_one]; rfl
  rintro m st ⟨k, rfl, hk, rfl⟩
  by_cases hlt : k < 9
  · have h0 : decide ((k : Int) < 9) = true := decide_eq_true (by omega)
    have hle : n / 10 ^ k ≤ n := Nat.div_le_self _ _
    have hs := dl_splice n k hlt
    have hdiv : n / 10 ^ (k + 1) = n / 10 ^ k / 10 := by rw [Nat.pow_succ, Nat.div_div_eq_div_mul]
    have hb : ((dc (n / 10 ^ k % 10)).toNat : Int) = 48 + ((n / 10 ^ k % 10 : Nat) : Int) := by rw [dc_nat (Nat.mod_lt _ (by decide))]; omega
    have hlen : ((List.replicate (9 - k) 0 ++ dl n k).map byteAV).length = 9 := by simp [dl_len]; omega
    simp only [byteAV] at hs
    generalize hcs : (List.replicate (9 - k) 0 ++ dl n k).map byteAV = cs at *
    generalize hd : n / 10 ^ k = q at *
    have w1 : IntKind.i64.wrap (8 - (k : Int)) = ((8 - k : Nat) : Int) := by rw [wrap64] <;> omega
    have w2 : ((q : Int)).tmod 10 = ((q % 10 : Nat) : Int) := by rw [Int.tmod_eq_emod_of_nonneg (by omega)]; omega
    have w3 : IntKind.u32.wrap (48 + ((q % 10 : Nat) : Int)) = 48 + ((q % 10 : Nat) : Int) := by rw [wrap32] <;> omega
    have w4 : IntKind.u8.wrap (48 + ((q % 10 : Nat) : Int)) = ((dc (q % 10)).toNat : Int) := by
      rw [hb]
      simp only [IntKind.wrap, IntKind.signed, IntKind.bits, Bool.false_and, Bool.false_eq_true, if_false]
      omega
    have w5 : ((q : Int)).tdiv 10 = ((q / 10 : Nat) : Int) := by rw [Int.tdiv_eq_ediv_of_nonneg (by omega)]; omega
    have w6 : IntKind.u32.wrap ((q / 10 : Nat) : Int) = ((q / 10 : Nat) : Int) := by rw [wrap32] <;> omega
    have w7 : IntKind.i64.wrap ((k : Int) + 1) = ((k + 1 : Nat) : Int) := by rw [wrap64] <;> omega
    simp only [splice] at hs
    simp only [ic103_2, wkA, Nat.reduceEqDiff, Nat.reduceAdd, Nat.reduceSub, Nat.reduceLeDiff, Nat.reduceLT, Nat.reduceBEq, Nat.reduceBNe, reduceCtorEq, h0]
    simp only [ic103_1, wkA, Nat.reduceEqDiff, Nat.reduceAdd, Nat.reduceSub, Nat.reduceLeDiff, Nat.reduceLT, Nat.reduceBEq, Nat.reduceBNe, reduceCtorEq, w1, w2, w3, w4, w5, w6, w7, Int.toNat_natCast, hlen]
    refine ⟨by omega, ⟨by omega, by omega⟩, by omega, by decide, _, 9 - (k + 1), Gh.refl _, by omega, k + 1, rfl, by omega, ?_⟩
    rw [hdiv, ← hs]
    rfl
  · have h0 : decide ((k : Int) < 9) = false := decide_eq_false (by omega)
    have hk9 : k = 9 := by omega
    subst hk9
    simp only [ic103_2, wkA, Nat.reduceEqDiff, Nat.reduceAdd, Nat.reduceSub, Nat.reduceLeDiff, Nat.reduceLT, Nat.reduceBEq, Nat.reduceBNe, reduceCtorEq, h0]
    simp only [ic103_3, wkA, Nat.reduceEqDiff, Nat.reduceAdd, Nat.reduceSub, Nat.reduceLeDiff, Nat.reduceLT, Nat.reduceBEq, Nat.reduceBNe, reduceCtorEq]
    refine raw_arr (x := .t 3) (i := 3) (n := 9) (cs := (List.replicate (9 - 9) 0 ++ dl n 9).map byteAV) op103b.1 op103b.2 Tryz.underlying163 info5s rfl rfl rfl (by simp [dl_len]) (by intro c hc; obtain ⟨b, _, rfl⟩ := List.mem_map.1 hc; rfl) ?_
    simp only [wkA, Nat.reduceEqDiff, Nat.reduceAdd, Nat.reduceSub, Nat.reduceLeDiff, Nat.reduceLT, Nat.reduceBEq, Nat.reduceBNe, reduceCtorEq]
    refine ⟨fun x hx => ?_, ?_⟩
    · obtain ⟨b, _, rfl⟩ := List.mem_map.1 hx
      have := b.toNat_lt
      exact ⟨by omega, by omega⟩
    · rw [List.map_map]
      have : byteOf ∘ byteAV = id := by
        funext b
        simp [byteOf, byteAV]
      rw [this, List.map_id]
      rfl
def itemA (p : Int × Int) : AV := .agg [i64 p.1, .int .i32 p.2]
def items (l : List (Int × Int)) : AV := .sl 2 (l.map itemA)
theorem info80 : (Tryz.prog.info? 80).map (fun i => (i.zero, i.size, i.bytes)) = some (some (.agg #[.int .i64 0, .int .i32 0]), 2, 16) := by kernel_rfl
theorem walk146z (w : World) : Calls Tryz.prog 146 #[.slice none 0 0, .int .i64 0] w fun e w' => e = .returned (.slice none 0 0) ∧ w' = w := by
  go_enter Tryz.func146, Tryz.ntmps146
  go_wp2
  go_ret
  exact ⟨rfl, rfl⟩
set_option maxHeartbeats 4000000 in
theorem walk146 (w : World) (n : Nat) (h0 : 0 < n) (hn : n < 1000000) : Calls Tryz.prog 146 #[.slice none 0 0, .int .i64 n] w fun e w' => ∃ G, e = .returned (.slice (some ⟨w.heap.size, 0, none⟩) 0 G) ∧ n ≤ G ∧ G ≤ maxLen ∧
    w' = w.drew.alloc (.cells (#[] ++ Builtin.zeroCells #[.int .i64 0, .int .i32 0] n ++ Builtin.zeroCells #[.int .i64 0, .int .i32 0] (G - n)) 80) := by
  obtain ⟨i0, hi, hz0, hz1, hz2⟩ := info_parts info80
  have h1 : ¬ ((n : Int) < 0) := by omega
  have h2 : Go.RowKit.wrap64 ((n : Int) - 0) = (n : Int) := by unfold Go.RowKit.wrap64; omega
  have h3 : Go.RowKit.wrap64 (0 - 0) = 0 := by unfold Go.RowKit.wrap64; omega
  have h4 : (n : Int) > 0 := by omega
  have z80 : ∀ w, (Go.sizeOf 80).run Tryz.prog w = .ok 2 w := fun w => by simp [Go.sizeOf, typeInfo, hi, hz1]
  have hrz : ∀ ty, (Builtin.append_ #[24, 3] ty #[.slice none 0 0, .int .i64 (n : Int)]).run Tryz.prog w =
      .ok (.slice (some ⟨w.heap.size, 0, none⟩) n (grownCap w n 0 80)) (w.drew.alloc (.cells (#[] ++ Builtin.zeroCells #[.int .i64 0, .int .i32 0] n ++ Builtin.zeroCells #[.int .i64 0, .int .i32 0] (grownCap w n 0 80 - n)) 80)) := fun ty => by
    have h := Lib.run_append_grow_zeros w 24 3 ty 80 i0 _ .i64 .i64 Tryz.underlying24 Tryz.underlying3 hi hz0 none 0 0 [] (run_firstCells_none w.drew i0.size 0 0 0) n h0 (by omega) (by omega) (by omega)
      (by rw [hz2]; omega)
      (by rw [hz2]; exact growslice_fits (by omega) (by omega))
    rw [Nat.zero_add] at h
    exact h
  have hGn : n ≤ grownCap w n 0 80 := grownCap_ge w _ _ _
  have hG63 : grownCap w n 0 80 ≤ maxLen := grownCap_le_maxLen w n 0 80 (by unfold maxLen; omega)
  generalize grownCap w n 0 80 = G at hrz hGn hG63 ⊢
  have hG64 : G ≤ 9223372036854775807 := by unfold maxLen at hG63; omega
  clear hi hz0 hz1 hz2
  go_enter Tryz.func146, Tryz.ntmps146
  go_wp2_with (at_builtin; refine Lib.wpList_append_run _ rfl _ _ _ _ rfl _ _ rfl rfl _ _ (hrz _) ?_)
  all_goals (go_ret; exact ⟨G, rfl, hGn, hG63, rfl⟩)
theorem con146 (n : Nat) (hn : n < 1000000) : ConO Tryz.prog gs 146 [.nil, i64 n] 80 2 [] := by
  intro w C us hC hG hr
  obtain ⟨u, v, rfl, h1, h2⟩ := relL_inv2 hr
  cases h1
  cases h2
  by_cases h0 : n = 0
  · subst h0
    refine (walk146z w).mono ?_
    rintro e w' ⟨rfl, rfl⟩
    exact ⟨_, C, rfl, Below.refl _ _, fun _ _ h => h, fun b o h => ⟨hC b o h, .inl h⟩, [], RelL.nil _ _, by simp, ⟨by simp [cellsOf], .inl ⟨rfl, rfl⟩⟩, fun g hg => by simp [mblk] at hg⟩
  · refine (walk146 w n (by omega) hn).mono ?_
    rintro e w' ⟨G, rfl, hg1, hg2, rfl⟩
    have hb : Below w.heap.size w (w.drew.alloc (.cells (#[] ++ Builtin.zeroCells #[.int .i64 0, .int .i32 0] n ++ Builtin.zeroCells #[.int .i64 0, .int .i32 0] (G - n)) 80)) := ((Below.refl _ w).drew).alloc (Nat.le_refl _) _
    refine ⟨_, C, rfl, hb, fun _ _ h => h, fun b o h => ⟨Nat.lt_of_lt_of_le (hC b o h) hb.size, .inl h⟩, [], RelL.nil _ _, by simp, ⟨by simp [cellsOf], .inr ⟨_, G, _, rfl, Nat.zero_le _, heap_alloc_new _ _, Nat.zero_le _, hg2, ?_, ?_⟩⟩, fun g hg => ?_⟩
    · simp [Builtin.zeroCells]
      omega
    · simp [cellsOf]
    · have : w.heap.size = g := by simpa [mblk] using hg
      subst this
      exact ⟨Nat.le_refl _, fun o hc => absurd (hC _ _ hc) (by simp)⟩
theorem raw_grow {ro : Oper} {c : Call} {d t i n : Nat} {K : St → Prop} {s : St} (ho : ro.op = .call c) (hc : c.callee = .value (.func 146)) (ha : c.args.toList = [.const (.slice none 0 0), .tmp t]) (hd : ro.dst = some d) (hip : i ≠ pinned) (hfr : look s.o i = none)
    (ht : look s.t t = some (i64 n)) (hn : n < 1000000) (hk : K (s.new d i (.row 80 2 []) (.own i))) : rawK e0 ro K s := by
  intro Y a w Q hP hG hnt ⟨μ, C, h⟩
  have hdn := hnt d hd
  obtain ⟨u, hu1, hu2⟩ := h.tm t _ ht
  have hargs : c.args.map a.eval = #[.slice none 0 0, u] := by
    apply Array.ext'
    simp only [Array.toList_map, ha, List.map_cons, List.map_nil]
    rw [show a.eval (.tmp t) = u by simp [Act.eval, hu1]]
    rfl
  have hr : RelL C w [.nil, i64 n] (#[Value.slice none 0 0, u]).toList := .cons .nil (.cons (by cases hu2; exact .int _ _) (.nil _ _))
  rw [hP] at *
  refine wp_call ho hc (by rfl) (by kernel_rfl) ?_
  rw [hargs]
  refine (con146 n hn w C _ h.c_lt (show GRel gs C w from (show Y.G = gs from hG) ▸ h.gr) hr).mono fun e w' he => ?_
  obtain ⟨u', C', rfl, hb, h1, h2, h3⟩ := he
  have hg := h.grow hb h1 h2
  refine ⟨u', rfl, _, ⟨updμ μ i u', C', ?_⟩, hk⟩
  rw [hd]
  obtain ⟨us, hru, hus, hro, hn⟩ := h3
  have hsl : ∃ A n c, u' = .slice A n c := by
    rcases hro.2 with ⟨he, _⟩ | ⟨g, cap, cur, he, _⟩
    · exact ⟨_, _, _, he⟩
    · exact ⟨_, _, _, he⟩
  have hob : ObRel C' w' Y.ow (.row 80 2 []) u' := ⟨us, hru, hus, hro, fun g hg' => ⟨h.nw g (Nat.le_trans h.be.size (hn g hg').1), (hn g hg').2⟩⟩
  have := hg.obj hdn hip (fun _ _ h => h) (fun _ _ _ => rfl) hg.cw hg.be hob (fun j b hj hb' g hgj => ⟨rfl, fun _ h => h, fun e => ?_⟩) (v := .own i) ⟨by simp [updμ], by simpa [updμ] using hsl⟩
  · have e1 : (fun t => killF i (look s.t t)) = look (killT i s.t) := funext fun t => (look_killT ..).symm
    rw [e1, ← look_cons, ← look_cons] at this
    exact this
  · have := (hn g e).1
    have := ((h.ob j b hb').lt g hgj).2.1
    omega
theorem op130 : (opOf Tryz.f130 9 1).op = .call ⟨.value (.func 146), #[.const (.slice none 0 0), .tmp 23], #[24, 3]⟩ ∧ (opOf Tryz.f130 9 1).dst = some 24 := ⟨by kernel_rfl, by kernel_rfl⟩
def I130a (ls : List (List (Int × Int))) (n : Nat) (st : St) : Prop := ∃ j, n = ls.length - j ∧ j ≤ ls.length ∧
  st = ⟨[(0, .sl 1 (ls.map items)), (3, i64 ((ls.take j).flatten.length : Nat)), (9, .sl 1 (ls.map items)), (10, i64 (ls.length : Nat)), (11, i64 (j : Nat))], []⟩
def I130b (ls : List (List (Int × Int))) (n : Nat) (st : St) : Prop := ∃ j, n = ls.length - j ∧ j ≤ ls.length ∧
  st = ⟨[(6, .own 33), (25, .sl 1 (ls.map items)), (26, i64 (ls.length : Nat)), (27, i64 (j : Nat))], [(33, .row 80 2 ((ls.take j).flatten.map itemA))]⟩
theorem con130 {ls : List (List (Int × Int))} (hl : ls.length < 1000) (h : ls.flatten.length < 1000) : Fn 130 [.sl 1 (ls.map items)] (items ls.flatten) := by
  refine e130 (by simp) ?_
  simp only [items, ic130, wkA, Nat.reduceEqDiff, Nat.reduceAdd, Nat.reduceSub, Nat.reduceLeDiff, Nat.reduceLT, Nat.reduceBEq, Nat.reduceBNe, reduceCtorEq, List.length_map]
  refine ⟨I130a ls, ls.length, _, Gh.refl _, ⟨0, by omega, by omega, by simp [items]⟩, ?_⟩
  rintro n st ⟨j, rfl, hj, rfl⟩
  by_cases hlt : j < ls.length
  · have e0 : decide ((j : Int) < (ls.length : Int)) = true := decide_eq_true (by omega)
    have hg : (ls.map items).getD j .top = items (ls.getD j []) := by simp [List.getD_eq_getElem?_getD, hlt]
    have ht : (ls.take (j + 1)).flatten = (ls.take j).flatten ++ ls.getD j [] := by
      rw [List.take_succ_eq_append_getElem hlt, List.flatten_append]; simp [List.getD_eq_getElem?_getD, hlt]
    have hle : (ls.take (j + 1)).flatten.length ≤ ls.flatten.length := by
      conv => rhs; rw [← List.take_append_drop (j + 1) ls, List.flatten_append, List.length_append]
      omega
    rw [ht, List.length_append] at hle
    have w1 : IntKind.i64.wrap ((j : Int) + 1) = ((j + 1 : Nat) : Int) := by rw [wrap64] <;> omega
    have w2 : IntKind.i64.wrap (((ls.take j).flatten.length : Nat) + ((ls.getD j []).length : Nat) : Int) = (((ls.take j).flatten.length + (ls.getD j []).length : Nat) : Int) := by rw [wrap64] <;> omega
    have e1 : decide ((((ls.take j).flatten.length + (ls.getD j []).length : Nat) : Int) < 0) = false := decide_eq_false (by omega)
    simp only [ic130_3, wkA, Nat.reduceEqDiff, Nat.reduceAdd, Nat.reduceSub, Nat.reduceLeDiff, Nat.reduceLT, Nat.reduceBEq, Nat.reduceBNe, reduceCtorEq, e0]
    simp only [ic130_2, ic130_1, wkA, Nat.reduceEqDiff, Nat.reduceAdd, Nat.reduceSub, Nat.reduceLeDiff, Nat.reduceLT, Nat.reduceBEq, Nat.reduceBNe, reduceCtorEq, Int.toNat_natCast, hg, items, List.length_map, w2, e1, w1]
    refine ⟨⟨by omega, by omega⟩, _, ls.length - (j + 1), Gh.refl _, by omega, j + 1, rfl, by omega, ?_⟩
    rw [ht, List.length_append]
  · have e0 : decide ((j : Int) < (ls.length : Int)) = false := decide_eq_false (by omega)
    have ht : (ls.take j).flatten = ls.flatten := by rw [List.take_of_length_le (by omega)]
    rw [ht]
    simp only [ic130_3, wkA, Nat.reduceEqDiff, Nat.reduceAdd, Nat.reduceSub, Nat.reduceLeDiff, Nat.reduceLT, Nat.reduceBEq, Nat.reduceBNe, reduceCtorEq, e0]
    simp only [ic130_7, wkA, Nat.reduceEqDiff, Nat.reduceAdd, Nat.reduceSub, Nat.reduceLeDiff, Nat.reduceLT, Nat.reduceBEq, Nat.reduceBNe, reduceCtorEq]
    refine raw_grow op130.1 rfl rfl op130.2 (by decide) rfl rfl (by omega) (i := 33) ?_
    simp only [wkA, Nat.reduceEqDiff, Nat.reduceAdd, Nat.reduceSub, Nat.reduceLeDiff, Nat.reduceLT, Nat.reduceBEq, Nat.reduceBNe, reduceCtorEq, List.length_map]
    refine ⟨I130b ls, ls.length, _, Gh.refl _, ⟨0, by omega, by omega, by simp⟩, ?_⟩
    rintro n st ⟨j, rfl, hj, rfl⟩
    by_cases hlt : j < ls.length
    · have e0 : decide ((j : Int) < (ls.length : Int)) = true := decide_eq_true (by omega)
      have hg : (ls.map items).getD j .top = items (ls.getD j []) := by simp [List.getD_eq_getElem?_getD, hlt]
      have ht : (ls.take (j + 1)).flatten = (ls.take j).flatten ++ ls.getD j [] := by
        rw [List.take_succ_eq_append_getElem hlt, List.flatten_append]; simp [List.getD_eq_getElem?_getD, hlt]
      have hle : (ls.take (j + 1)).flatten.length ≤ ls.flatten.length := by
        conv => rhs; rw [← List.take_append_drop (j + 1) ls, List.flatten_append, List.length_append]
        omega
      rw [ht, List.length_append] at hle
      have w1 : IntKind.i64.wrap ((j : Int) + 1) = ((j + 1 : Nat) : Int) := by rw [wrap64] <;> omega
      simp only [ic130_5, wkA, Nat.reduceEqDiff, Nat.reduceAdd, Nat.reduceSub, Nat.reduceLeDiff, Nat.reduceLT, Nat.reduceBEq, Nat.reduceBNe, reduceCtorEq, e0]
      simp only [ic130_4, wkA, Nat.reduceEqDiff, Nat.reduceAdd, Nat.reduceSub, Nat.reduceLeDiff, Nat.reduceLT, Nat.reduceBEq, Nat.reduceBNe, reduceCtorEq, Int.toNat_natCast, hg, items, List.length_map, w1]
      refine ⟨⟨by omega, by omega⟩, ⟨by omega, by omega⟩, _, ls.length - (j + 1), Gh.refl _, by omega, j + 1, rfl, by omega, ?_⟩
      rw [ht, List.map_append]
    · have e0 : decide ((j : Int) < (ls.length : Int)) = false := decide_eq_false (by omega)
      have ht : (ls.take j).flatten = ls.flatten := by rw [List.take_of_length_le (by omega)]
      rw [ht]
      simp only [ic130_5, wkA, Nat.reduceEqDiff, Nat.reduceAdd, Nat.reduceSub, Nat.reduceLeDiff, Nat.reduceLT, Nat.reduceBEq, Nat.reduceBNe, reduceCtorEq, e0]
      simp only [ic130_6, wkA, Nat.reduceEqDiff, Nat.reduceAdd, Nat.reduceSub, Nat.reduceLeDiff, Nat.reduceLT, Nat.reduceBEq, Nat.reduceBNe, reduceCtorEq]
end Go.Proofs.YtgehlcgjchfibaaGreatDoor.F
namespace Go.Proofs
open Go.Shelf
def Tryz.laysF129_ren : Go.Shelf.Ren := ⟨fun | 8 => 129 | 6 => 145 | n => n, fun | 22 => 24 | 23 => 80 | 25 => 160 | 4 => 4 | 3 => 3 | 0 => 0 | n => n, fun | n => n⟩
theorem Tryz.laysF129 : Go.Proofs.SlLaysH0.n8 Tryz.prog Tryz.laysF129_ren := {
  mixed := by kernel_rfl
  f6 := ⟨Tryz.f145.name, by decide, Tryz.func145.trans (congrArg some (by kernel_rfl))⟩
  f8 := ⟨Tryz.f129.name, by decide, Tryz.func129.trans (congrArg some (by kernel_rfl))⟩
  t0 := Tryz.underlying0
  a0 := Tryz.isAgg0
  z0 := Tryz.sizeOf0
  v0 := Tryz.zeroValue0
  t3 := Tryz.underlying3
  a3 := Tryz.isAgg3
  z3 := Tryz.sizeOf3
  v3 := Tryz.zeroValue3
  t4 := Tryz.underlying4
  a4 := Tryz.isAgg4
  z4 := Tryz.sizeOf4
  v4 := Tryz.zeroValue4
  t22 := Tryz.underlying24
  a22 := Tryz.isAgg24
  z22 := Tryz.sizeOf24
  v22 := Tryz.zeroValue24
  t25 := Tryz.underlying160
  a25 := Tryz.isAgg160
  z25 := Tryz.sizeOf160
  v25 := Tryz.zeroValue160 }
end Go.Proofs
namespace Go.Proofs.YtgehlcgjchfibaaGreatDoor.F
open Go Go.RowKit Go.Proofs Go.Shelf
def encI (x : Int × Int) : List Value := [.int .i64 x.1, .int .i32 x.2]
theorem agg80 : ∀ w, (isAgg 80).run Tryz.prog w = .ok true w := Tryz.isAgg80
theorem sz80 : ∀ w, (Go.sizeOf 80).run Tryz.prog w = .ok 2 w := Tryz.sizeOf80
theorem pred131 (k : Int) (B : Nat) (w : World) (hB : B < w.heap.size) (hcell : w.cell? ⟨B, 0, none⟩ = some (.int .i64 k)) :
    PredBelow Tryz.prog 131 #[.pointer (some ⟨B, 0, none⟩)] (fun x => .agg (encI x).toArray) (fun x => x.1 == k) w := fun W x hb => by
  have hc : W.cell? ⟨B, 0, none⟩ = some (.int .i64 k) := (hb.cell (p := ⟨B, 0, none⟩) hB).trans hcell
  have hBW : B < W.heap.size := Nat.lt_of_lt_of_le hB hb.size
  have hne : B ≠ W.heap.size := by omega
  show Calls Tryz.prog 131 #[.agg #[.int .i64 x.1, .int .i32 x.2], .pointer (some ⟨B, 0, none⟩)] W _
  go_enter Tryz.func131, Tryz.ntmps131
  go_wp2
  all_goals (go_ret; exact ⟨by simp_all, hb.alloc hb.size _⟩)
theorem walk145e (A : Option Addr) (cap : Nat) (f : Value) (w : World) : Calls Tryz.prog 145 #[.slice A 0 cap, f] w fun e w' => e = .returned (.int .i64 (-1)) ∧ w' = w := by
  go_enter Tryz.func145, Tryz.ntmps145
  go_wp2
  go_loopg [5, 8] 0 (fun gg _ s8 wr => s8 = .int .i64 0 ∧ wr = w)
  case atStart => exact ⟨rfl, rfl⟩
  case round =>
    obtain ⟨rfl, rfl⟩ := hrel
    go_wp2
    all_goals (go_ret; exact ⟨rfl, rfl⟩)
theorem walk129e (A : Option Addr) (cap : Nat) (f : Value) (w : World) : Calls Tryz.prog 129 #[.slice A 0 cap, f] w fun e w' => e = .returned (.bool false) ∧ w' = w := by
  have h := walk145e A cap f w
  go_enter Tryz.func129, Tryz.ntmps129
  go_wp2_with (go_at_call 145; refine h.mono ?_; rintro e w' ⟨rfl, rfl⟩)
  all_goals (go_ret; exact ⟨rfl, rfl⟩)
theorem walk95 (k : Int) (S : Value) (w : World) (r : Bool) (Φ : Value → World → Prop)
    (h130 : Calls Tryz.prog 130 #[S] (w.alloc (.cells #[.int .i64 k] 3)) fun e w' => ∃ u, e = .returned u ∧ Φ u w')
    (h129 : ∀ u w', Φ u w' → Calls Tryz.prog 129 #[u, .func (.func 131) #[] #[.pointer (some ⟨w.heap.size, 0, none⟩)]] w' fun e w'' => e = .returned (.bool r) ∧ Below w.heap.size w w'') :
    Calls Tryz.prog 95 #[.int .i64 k, S] w fun e w' => e = .returned (.bool r) ∧ Below w.heap.size w w' := by
  go_enter Tryz.func95, Tryz.ntmps95
  go_wp2_with (first | (go_at_call 130; refine h130.mono ?_; rintro e w1 ⟨u, rfl, hp⟩; have h2 := h129 u w1 hp) | (go_at_call 129; refine h2.mono ?_; rintro e w2 ⟨rfl, hb⟩))
  all_goals (go_ret; exact ⟨rfl, hb⟩)
theorem rel_item {C : Nat → Nat → Prop} {w : World} {p : Int × Int} {u : Value} (h : Rel C w (itemA p) u) : u = .agg (encI p).toArray := by
  unfold itemA at h
  cases h with
  | agg cs us hl hh h1 =>
    obtain ⟨a, t, rfl, ha, ht⟩ := RelL.cons_inv (show RelL C w [i64 p.1, .int .i32 p.2] us from ⟨hl, hh⟩)
    obtain ⟨b, t', rfl, hb, ht'⟩ := ht.cons_inv
    have := ht'.nil_inv
    subst this
    cases ha
    cases hb
    rfl
theorem con95 {ls : List (List (Int × Int))} (hl : ls.length < 1000) (h : ls.flatten.length < 1000) (k : Int) : Fn 95 [i64 k, .sl 1 (ls.map items)] (.bool (ls.flatten.any fun x => x.1 == k)) := by
  intro w C us hC hG hr
  obtain ⟨u, S, rfl, h1, h2⟩ := relL_inv2 hr
  cases h1
  obtain ⟨w1, hw1⟩ : ∃ w1, w.alloc (.cells #[.int .i64 k] 3) = w1 := ⟨_, rfl⟩
  have hb1 : Below w.heap.size w w1 := hw1 ▸ (Below.refl _ w).alloc (Nat.le_refl _) _
  have hs1 : w1.heap.size = w.heap.size + 1 := by rw [← hw1]; exact World.size_alloc ..
  have hcl : ∀ b o, C b o → w1.cell? ⟨b, o, none⟩ = w.cell? ⟨b, o, none⟩ := fun b o hc => hb1.cell (p := ⟨b, o, none⟩) (hC b o hc)
  have hc0 : w1.cell? ⟨w.heap.size, 0, none⟩ = some (.int .i64 k) := by rw [← hw1]; simp
  have h130 := con130 hl h w1 C #[S] (fun b o hc => Nat.lt_of_lt_of_le (hC b o hc) hb1.size) (hG.mono (fun _ _ h => h) hcl) (.cons (h2.mono (fun _ _ h => h) hcl) (.nil _ _))
  refine (walk95 k S w (ls.flatten.any fun x => x.1 == k) (fun u w' => ∃ C', Below w1.heap.size w1 w' ∧ Rel C' w' (items ls.flatten) u ∧ ∀ b o, C' b o → b < w'.heap.size) (by
    rw [hw1]
    refine h130.mono ?_
    rintro e w' ⟨u, C', rfl, hb, q1, q2, q3⟩
    exact ⟨u, rfl, C', hb, q3, fun b o hc => (q2 b o hc).1⟩) ?_).mono ?_
  · rintro u w' ⟨C', hb, hrel, hlt⟩
    have hB : Below w.heap.size w w' := hb1.trans (hb.mono (by omega))
    generalize ls.flatten = zs at *
    obtain ⟨A, cap, he, hA, hne⟩ := (TRel.of_rel (μ := fun _ => u) hrel).sl_inv
    rw [List.length_map] at he
    subst he
    by_cases hz : zs = []
    · subst hz
      refine (walk129e A cap _ w').mono ?_
      rintro e w2 ⟨rfl, rfl⟩
      exact ⟨rfl, hB⟩
    · obtain ⟨b, off, us, rfl, hc, hx, hs, hq⟩ := hne (by simpa using hz)
      have hz0 : 0 < zs.length := List.length_pos_iff.2 hz
      have hget : ∀ j, j < zs.length → us j = .agg (encI zs[j]!).toArray := fun j hj => rel_item (hx j (itemA zs[j]!) (by rw [List.getElem?_map, List.getElem?_eq_getElem hj]; simp [hj]))
      have hcell : ∀ j, j < zs.length → ∀ i v, (encI zs[j]!)[i]? = some v → w'.cell? ⟨b, off + j * 2 + i, none⟩ = some v ∧ C' b (off + j * 2 + i) := by
        intro j hj i v hi
        have := hq j i v (by rw [List.length_map]; exact hj) (by rw [hget j hj]; simpa [Value.cells] using hi)
        rw [Nat.add_assoc]
        exact ⟨this.2, this.1⟩
      have hbl : b < w'.heap.size := hlt _ _ (hcell 0 hz0 0 _ rfl).2
      refine (AnyQ.slices_ContainsFunc Tryz.laysF129 2 agg80 sz80 encI (fun _ => rfl) (fun x => x.1 == k) 131 #[.pointer (some ⟨w.heap.size, 0, none⟩)] (enters_of Tryz.func131 (by kernel_rfl) rfl) b off zs.length cap zs w'
        (pred131 k w.heap.size w' (Nat.lt_of_lt_of_le (by omega) hb.size) ((hb.cell (p := ⟨w.heap.size, 0, none⟩) (by show w.heap.size < _; omega)).trans hc0)) (Nat.le_refl _) (by omega) hbl (fun j hj i v hi => (hcell j hj i v hi).1)).mono ?_
      rintro e w2 ⟨rfl, hb2⟩
      rw [List.take_length]
      exact ⟨rfl, hB.trans (hb2.mono hB.size)⟩
  · rintro e w' ⟨rfl, hb⟩
    exact ⟨_, C, rfl, hb, fun _ _ h => h, fun b o h => ⟨Nat.lt_of_lt_of_le (hC b o h) hb.size, .inl h⟩, .bool _⟩
end Go.Proofs.YtgehlcgjchfibaaGreatDoor.F
namespace Go.Proofs.YtgehlcgjchfibaaGreatDoor.F
open Go Go.RowKit Go.Proofs Go.Shelf
theorem sizeB : (Tryz.prog.info? 128).map (·.size) = some 2 := by kernel_rfl
theorem liesB : liesAt Tryz.prog Tryz.prog.depth 128 (2 / Tryz.prog.cellsOf 128) 0 128 1 = true := by kernel_rfl
theorem infoU8 : (Tryz.prog.info? 5).map (fun i => (i.zero, i.size, i.bytes)) = some (some (.int .u8 0), 1, 1) := by kernel_rfl
set_option maxHeartbeats 2000000 in
theorem check_new (b : Nat) (w : World) (h0 : w.cell? ⟨b, 0, none⟩ = some (.pointer none)) (hsh : w.shape? b = some (128, 2)) (hfz : w.frozen? ⟨b, 0, none⟩ = false) :
    Calls Tryz.prog 135 #[.pointer (some ⟨b, 0, none⟩)] w fun e w' => e = .returned (.tuple #[]) ∧ w' = w.setCell ⟨b, 0, none⟩ (.pointer (some ⟨b, 0, none⟩)) := by
  obtain ⟨j, hj, hjs⟩ := Option.map_eq_some_iff.1 sizeB
  go_enter Tryz.func135, Tryz.ntmps135
  go_wp2
  rw [Lib.run_to_unsafe w ⟨b, 0, none⟩ Tryz.underlying126 Tryz.underlying174 hj (by rw [hjs]; decide) hsh (Nat.zero_lt_succ 1)]
  simp only [Result.andThen]
  rw [Oper.upon_value]
  go_wp2
  rw [run_callFunc_extern Tryz.func147 (by kernel_rfl) (by kernel_rfl) (by kernel_rfl) (e := Extern.AbiNoEscape.same) (by kernel_rfl)]
  rw [Lib.run_noEscape]
  simp only [Result.andThen]
  rw [Oper.upon_value]
  go_wp2
  rw [Lib.run_from_unsafe w ⟨b, 0, none⟩ Tryz.underlying174 Tryz.underlying126 hj hsh liesB]
  simp only [Result.andThen]
  rw [Oper.upon_value]
  go_wp2
  go_end0
  exact ⟨rfl, rfl⟩
set_option maxHeartbeats 2000000 in
theorem check_used (b : Nat) (w : World) (h0 : w.cell? ⟨b, 0, none⟩ = some (.pointer (some ⟨b, 0, none⟩))) :
    Calls Tryz.prog 135 #[.pointer (some ⟨b, 0, none⟩)] w fun e w' => e = .returned (.tuple #[]) ∧ w' = w := by
  obtain ⟨j, hj, _⟩ := Option.map_eq_some_iff.1 sizeB
  go_enter Tryz.func135, Tryz.ntmps135
  go_wp2
  rw [Lib.run_neq_ptr_same w _ Tryz.underlying126 hj]
  go_wp2
  go_end0
  exact ⟨rfl, rfl⟩
theorem check (B b : Nat) (bs : List Value) (w : World) (h : Lib.IsBuilderF 128 5 B b bs w) :
    Calls Tryz.prog 135 #[.pointer (some ⟨b, 0, none⟩)] w fun e w' => e = .returned (.tuple #[]) ∧ (Lib.BuilderAtF 128 5 B b (.pointer (some ⟨b, 0, none⟩)) bs w' ∧ Below B w w' ∧ Lib.OthersKept 5 (some b) w w') := by
  rcases h with h | h
  · refine (check_new b w h.cell0 h.shape h.frozen0).mono ?_
    rintro e w' ⟨rfl, rfl⟩
    exact ⟨rfl, h.used _, (Below.refl B w).setCell (p := ⟨b, 0, none⟩) h.1 _, (Lib.OthersKept.refl _ _ w).setCell ⟨b, 0, none⟩ rfl _⟩
  · refine (check_used b w h.cell0).mono ?_
    rintro e w' ⟨rfl, rfl⟩
    exact ⟨rfl, h, Below.refl B _, Lib.OthersKept.refl _ _ _⟩
set_option maxHeartbeats 4000000 in
theorem bldByte (B b : Nat) (bs : List Value) (c : Int) (w : World) (h : Lib.IsBuilderF 128 5 B b bs w) (hlen : bs.length + 1 ≤ 140737488355328) (hBw : B ≤ w.heap.size) :
    Calls Tryz.prog 111 #[.pointer (some ⟨b, 0, none⟩), .int .u8 c] w fun e w' => e = .returned .nilIface ∧ (Lib.BuilderAtF 128 5 B b (.pointer (some ⟨b, 0, none⟩)) (bs ++ [.int .u8 c]) w' ∧ Below B w w' ∧ Lib.OthersKept 5 (some b) w w') := by
  obtain ⟨i0, hi, hz0, hz1, hz2⟩ := info_parts infoU8
  go_enter Tryz.func111, Tryz.ntmps111
  go_wp2_with (go_at_call 135; refine (check B b bs _ h).mono ?_)
  rintro e w1 ⟨rfl, h1, hb1, hk1⟩
  obtain ⟨hB, v, hbk, hown, hne⟩ := h1
  have c0 : w1.cell? ⟨b, 0, none⟩ = some (.pointer (some ⟨b, 0, none⟩)) := by rw [Lib.cell_of_heap hbk]; rfl
  have c1 : w1.cell? ⟨b, 1, none⟩ = some v := by rw [Lib.cell_of_heap hbk]; rfl
  go_wp2_with (at_builtin; refine wpList_append_ownF _ rfl _ _ 107 rfl B 5 i0 (.int .u8 0) 1 1 Tryz.underlying107 hi hz0 hz1 hz2 rfl (by decide) _ _ _ rfl (hown.alloc _) ⟨w1.heap.size, 0, none⟩ 1 1 [.int .u8 c] rfl rfl ?c1 ?c2 ?c3 ?c4 ?c5 ?_)
  case c1 =>
    intro j u hj
    match j, hj with
    | 0, hj => simp at hj; subst hj; simp [Addr.add]
  case c2 => intro u hu; simp at hu; subst hu; rfl
  case c3 => unfold maxLen; omega
  case c4 => omega
  case c5 => have := hb1.size; simp; omega
  intro v' w2 hown' hgrow _
  have hlt : b < w1.heap.size := (Array.getElem?_eq_some_iff.1 hbk).1
  have hb2 : w2.heap[b]? = some (.cells #[.pointer (some ⟨b, 0, none⟩), v] 128 (0, 0)) := by
    rw [hgrow.block b (by simp; omega) (fun e => hne e.symm), Lib.alloc_old w1 _ b hlt]
    exact hbk
  have d0 : w2.cell? ⟨b, 0, none⟩ = some (.pointer (some ⟨b, 0, none⟩)) := by rw [Lib.cell_of_heap hb2]; rfl
  have d1 : w2.cell? ⟨b, 1, none⟩ = some v := by rw [Lib.cell_of_heap hb2]; rfl
  have f1 : w2.frozen? ⟨b, 1, none⟩ = false := Lib.frozen_of_heap hb2 1
  obtain ⟨g, cap, rfl⟩ : ∃ g cap, v' = .slice (some ⟨g, 0, none⟩) (bs.length + 1) cap := by
    rcases hown'.2 with ⟨_, h0⟩ | ⟨g, cap, cur, fz, hv, _⟩
    · omega
    · exact ⟨g, cap, hv⟩
  go_wp2
  go_ret
  refine ⟨rfl, ?_, ?_, ((hk1.alloc _).grown hgrow (Lib.ownsRowF_kind (hown.alloc _))).setCell ⟨b, 1, none⟩ rfl _⟩
  · exact Lib.BuilderAtF.put (T := 128) (e := 5) hB hb2 (bs' := bs ++ [.int .u8 c]) (by simpa using hown') (by decide)
  · exact ((hb1.alloc (by have := hb1.size; omega) _).grown hgrow (by have := hb1.size; simp; omega) (fun k hk => (hown.lt k hk).1)).setCell (p := ⟨b, 1, none⟩) hB _
set_option maxHeartbeats 4000000 in
theorem bldStr (B b : Nat) (bs : List Value) (s : ByteArray) (w : World) (h : Lib.IsBuilderF 128 5 B b bs w) (hlen : bs.length + s.size ≤ 140737488355328) (hBw : B ≤ w.heap.size) :
    Calls Tryz.prog 102 #[.pointer (some ⟨b, 0, none⟩), .string s] w fun e w' => e = .returned (.tuple #[.int .i64 s.size, .nilIface]) ∧ (Lib.BuilderAtF 128 5 B b (.pointer (some ⟨b, 0, none⟩)) (bs ++ Lib.strCells s) w' ∧ Below B w w' ∧ Lib.OthersKept 5 (some b) w w') := by
  obtain ⟨i0, hi, hz0, hz1, hz2⟩ := info_parts infoU8
  go_enter Tryz.func102, Tryz.ntmps102
  go_wp2_with (go_at_call 135; refine (check B b bs _ h).mono ?_)
  rintro e w1 ⟨rfl, h1, hb1, hk1⟩
  obtain ⟨hB, v, hbk, hown, hne⟩ := h1
  have c0 : w1.cell? ⟨b, 0, none⟩ = some (.pointer (some ⟨b, 0, none⟩)) := by rw [Lib.cell_of_heap hbk]; rfl
  have c1 : w1.cell? ⟨b, 1, none⟩ = some v := by rw [Lib.cell_of_heap hbk]; rfl
  go_wp2_with (at_builtin; refine Lib.wpList_append_own_stringF _ rfl _ _ 107 9 rfl B 5 i0 Tryz.underlying107 Tryz.underlying9 hi hz0 hz1 hz2 _ _ _ rfl hown s rfl ?c3 ?c4 ?c5 ?_)
  case c3 => unfold maxLen; omega
  case c4 => omega
  case c5 => have := hb1.size; omega
  intro v' w2 hown' hgrow _
  have hlt : b < w1.heap.size := (Array.getElem?_eq_some_iff.1 hbk).1
  have hb2 : w2.heap[b]? = some (.cells #[.pointer (some ⟨b, 0, none⟩), v] 128 (0, 0)) := by
    rw [hgrow.block b hlt (fun e => hne e.symm)]
    exact hbk
  have d0 : w2.cell? ⟨b, 0, none⟩ = some (.pointer (some ⟨b, 0, none⟩)) := by rw [Lib.cell_of_heap hb2]; rfl
  have d1 : w2.cell? ⟨b, 1, none⟩ = some v := by rw [Lib.cell_of_heap hb2]; rfl
  have f1 : w2.frozen? ⟨b, 1, none⟩ = false := Lib.frozen_of_heap hb2 1
  obtain ⟨ao, n', cap, rfl⟩ : ∃ ao n' cap, v' = .slice ao n' cap := by
    rcases hown'.2 with ⟨hv, _⟩ | ⟨g, cap, cur, fz, hv, _⟩
    · exact ⟨_, _, _, hv⟩
    · exact ⟨_, _, _, hv⟩
  go_wp2
  go_ret2
  refine ⟨rfl, ?_, ?_, (hk1.grown hgrow (Lib.ownsRowF_kind hown)).setCell ⟨b, 1, none⟩ rfl _⟩
  · exact Lib.BuilderAtF.put (T := 128) (e := 5) hB hb2 (bs' := bs ++ Lib.strCells s) (by simpa [Lib.strCells_length] using hown') (by decide)
  · exact (hb1.grown hgrow (by have := hb1.size; omega) (fun k hk => (hown.lt k hk).1)).setCell (p := ⟨b, 1, none⟩) hB _
end Go.Proofs.YtgehlcgjchfibaaGreatDoor.F
namespace Go.Proofs.YtgehlcgjchfibaaGreatDoor.F
open Go Go.RowKit Go.Proofs Go.Shelf
attribute [local go_sem] Oper.semAt_some
def Kb (n₀ B : Nat) (U V : World) : Prop := ∀ k, k < n₀ → k ≠ B → V.heap[k]? = U.heap[k]?
theorem Kb.refl (n₀ B : Nat) (U : World) : Kb n₀ B U U := fun _ _ _ => rfl
theorem Kb.trans {n₀ B : Nat} {U V X : World} (h : Kb n₀ B U V) (h' : Kb n₀ B V X) : Kb n₀ B U X := fun k h1 h2 => (h' k h1 h2).trans (h k h1 h2)
theorem Kb.cell {n₀ B : Nat} {U V : World} (h : Kb n₀ B U V) {k : Nat} (h1 : k < n₀) (h2 : k ≠ B) (o : Nat) : V.cell? ⟨k, o, none⟩ = U.cell? ⟨k, o, none⟩ := by simp [World.cell?, h k h1 h2]
abbrev Lb := { x : Nat × Nat // x.2 < 1000000000 }
def encL (x : Lb) : Array Value := #[.int .i64 (x.1.1 : Int), .int .u32 (x.1.2 : Int)]
def lbAt (len : Nat) (xs : Nat → Nat) (hx : ∀ j, xs j < 1000000000) (k : Nat) : Lb := ⟨(len - 1 - k, xs (len - 1 - k)), hx _⟩
def upto (f : Nat → Lb) (k : Nat) : List Lb := (List.range k).map f
theorem upto_succ (f : Nat → Lb) (k : Nat) : upto f (k + 1) = upto f k ++ [f k] := by simp [upto, List.range_succ]
theorem upto_length (f : Nat → Lb) (k : Nat) : (upto f k).length = k := by simp [upto]
set_option maxHeartbeats 2000000 in
theorem back1_in (F : Fence) (n : Nat) (h134 : F.fn 134) (hro : F.round = none) (hn : 1 ≤ n) (l Bs n₀ B b off len cap : Nat) (xs : Nat → Nat) (hx : ∀ j, xs j < 1000000000) (hreach : len ≤ 1000000) (hb : b < n₀ ∧ b ≠ B) (hBn : Bs < n₀ ∧ Bs ≠ B) (J Jx : List Lb → World → Prop)
    (hY : ∀ pre x W, J pre W → pre.length < len → YieldAt F (n - 1) Tryz.prog l (encL x) W fun e W' =>
      (e = .returned (.bool true) ∧ J (pre ++ [x]) W' ∧ Kb n₀ B W W') ∨ (e = .returned (.bool false) ∧ Jx (pre ++ [x]) W'))
    (W : World) (hBs : W.cell? ⟨Bs, 0, none⟩ = some (.slice (some ⟨b, off, none⟩) len cap)) (hc : ∀ j, j < len → W.cell? ⟨b, off + j, none⟩ = some (.int .u32 (xs j : Nat))) (h0 : J [] W) :
    CallsIn F n Tryz.prog 134 #[.func (.yield l) #[] #[], .pointer (some ⟨Bs, 0, none⟩)] W fun e W' => (∃ v, e = .returned v) ∧
      ((∃ ys, ys = upto (lbAt len xs hx) len ∧ J ys W') ∨ (∃ pre, (∃ k, k ≤ len ∧ pre = upto (lbAt len xs hx) k) ∧ Jx pre W')) := by
  refine callsIn_of_wp Tryz.func134 rfl h134 ?_ hro
  simp only [Tryz.ntmps134, List.size_toArray, List.length_cons, List.length_nil, Nat.reduceAdd, Nat.reduceSub, Array.replicate_succ, Array.replicate_zero, List.push_toArray, List.append_toArray, List.nil_append, List.cons_append]
  gi_wp2
  gi_loopw [3] (fun i wr => ∃ k : Nat, k ≤ len ∧ i = .int .i64 ((len : Int) - 1 - k) ∧ J (upto (lbAt len xs hx) k) wr ∧ Kb n₀ B W wr)
    (fun i _ => (intOf i + 1).toNat)
  case atStart => exact ⟨0, Nat.zero_le _, by simp, h0, Kb.refl _ _ _⟩
  case round =>
    obtain ⟨k, hk, rfl, hJs, hnx⟩ := hrel
    have hbx : wr.cell? ⟨Bs, 0, none⟩ = some (.slice (some ⟨b, off, none⟩) len cap) := (hnx.cell hBn.1 hBn.2 0).trans hBs
    by_cases hlt : k < len
    · have hcx : wr.cell? ⟨b, off + (len - 1 - k), none⟩ = some (.int .u32 (xs (len - 1 - k) : Nat)) := (hnx.cell hb.1 hb.2 _).trans (hc _ (by omega))
      obtain ⟨fn, tmps, assign, body, hy, hR⟩ := hY _ (lbAt len xs hx k) wr hJs (by rw [upto_length]; exact hlt)
      have hj : (len : Int) - 1 - k = ((len - 1 - k : Nat) : Int) := by omega
      rw [hj]
      dsimp only [encL, lbAt] at hy
      generalize hjj : len - 1 - k = j at *
      gi_wp2
      refine hR.mono ?_
      rintro e W3 (⟨rfl, hJ3, hk3⟩ | ⟨rfl, hJx3⟩)
      · gi_wp2
        go_roundw
        case rel => exact ⟨k + 1, by omega, by congr 1 <;> omega, by rw [upto_succ]; exact hJ3, hnx.trans hk3⟩
        case measure => simp [intOf] <;> omega
      · gi_wp2
        refine bodyPost_ret (results_none rfl _ _ _) rfl ?_
        exact ⟨⟨_, rfl⟩, .inr ⟨_, ⟨k + 1, by omega, (upto_succ _ _).symm⟩, hJx3⟩⟩
    · obtain rfl : k = len := by omega
      have hj : (k : Int) - 1 - k = -1 := by omega
      rw [hj]
      gi_wp2
      go_end0
      exact ⟨⟨_, rfl⟩, .inl ⟨_, rfl, hJs⟩⟩
set_option maxHeartbeats 1000000 in
theorem back1_nil (F : Fence) (n : Nat) (h134 : F.fn 134) (hro : F.round = none) (l Bs cap : Nat) (A : Option Addr) (J : List Lb → World → Prop) (W : World) (hBs : W.cell? ⟨Bs, 0, none⟩ = some (.slice A 0 cap)) (h0 : J [] W) :
    CallsIn F n Tryz.prog 134 #[.func (.yield l) #[] #[], .pointer (some ⟨Bs, 0, none⟩)] W fun e W' => (∃ v, e = .returned v) ∧ J [] W' := by
  refine callsIn_of_wp Tryz.func134 rfl h134 ?_ hro
  simp only [Tryz.ntmps134, List.size_toArray, List.length_cons, List.length_nil, Nat.reduceAdd, Nat.reduceSub, Array.replicate_succ, Array.replicate_zero, List.push_toArray, List.append_toArray, List.nil_append, List.cons_append]
  gi_wp2
  gi_loopw [3] (fun i wr => i = .int .i64 (-1) ∧ J [] wr) (fun _ _ => 0)
  case atStart => exact ⟨by simp, h0⟩
  case round =>
    obtain ⟨rfl, hJs⟩ := hrel
    gi_wp2
    go_end0
    exact ⟨⟨_, rfl⟩, hJs⟩
set_option maxHeartbeats 1000000 in
theorem back_in (F : Fence) (n : Nat) (h101 : F.fn 101) (hro : F.round = none) (a : Option Addr) (len cap : Nat) (w : World) :
    CallsIn F n Tryz.prog 101 #[.slice a len cap] w fun e w' => e = .returned (.func (.func 134) #[] #[.pointer (some ⟨w.heap.size, 0, none⟩)]) ∧ w' = w.alloc (.cells #[.slice a len cap] 84) := by
  refine callsIn_of_wp Tryz.func101 rfl h101 ?_ hro
  simp only [Tryz.ntmps101, List.size_toArray, List.length_cons, List.length_nil, Nat.reduceAdd, Nat.reduceSub, Array.replicate_succ, Array.replicate_zero, List.push_toArray, List.append_toArray, List.nil_append, List.cons_append]
  gi_wp2
  go_ret
  exact ⟨rfl, rfl⟩
theorem upto_take (f : Nat → Lb) {k m : Nat} (h : k ≤ m) : upto f k <+: upto f m := by
  unfold upto
  refine ⟨((List.range m).drop k).map f, ?_⟩
  rw [← List.map_append]
  congr 1
  have : List.range k = (List.range m).take k := by rw [List.take_range]; congr 1; omega
  rw [this, List.take_append_drop]
theorem back_stops (F : Fence) (n : Nat) (h134 : F.fn 134) (hro : F.round = none) (hn : 1 ≤ n) (Bs n₀ B : Nat) (A : Option Addr) (len cap : Nat) (xs : Nat → Nat) (hx : ∀ j, xs j < 1000000000) (hreach : len ≤ 1000000) (w : World) (hBs : Bs < w.heap.size) (hBn : Bs < n₀ ∧ Bs ≠ B) (hn₀ : n₀ ≤ w.heap.size)
    (hcell : w.cell? ⟨Bs, 0, none⟩ = some (.slice A len cap)) (hI : len ≠ 0 → ∃ b off, A = some ⟨b, off, none⟩ ∧ (b < n₀ ∧ b ≠ B) ∧ ∀ j, j < len → w.cell? ⟨b, off + j, none⟩ = some (.int .u32 (xs j : Nat))) :
    SeqStopsK F n Tryz.prog 134 #[.pointer (some ⟨Bs, 0, none⟩)] encL (Kb n₀ B) (fun ys => ys = upto (lbAt len xs hx) len) (fun pre => pre <+: upto (lbAt len xs hx) len) len w := fun l J Jx W hW _ _ hY h0 => by
  have hc' := (hW.cell (p := ⟨Bs, 0, none⟩) hBs).trans hcell
  by_cases h : len = 0
  · subst h
    exact (back1_nil F n h134 hro l Bs cap A J W hc' h0).mono fun e W' ⟨he, hj⟩ => ⟨he, .inl ⟨_, rfl, hj⟩⟩
  · obtain ⟨b, off, rfl, hb, hcs⟩ := hI h
    refine (back1_in F n h134 hro hn l Bs n₀ B b off len cap xs hx hreach hb hBn J Jx hY W hc' (fun j hj => (hW.cell (p := ⟨b, off + j, none⟩) (Nat.lt_of_lt_of_le hb.1 hn₀)).trans (hcs j hj)) h0).mono ?_
    rintro e W' ⟨he, ⟨ys, rfl, hj⟩ | ⟨pre, ⟨k, hk, rfl⟩, hj⟩⟩
    · exact ⟨he, .inl ⟨_, rfl, hj⟩⟩
    · exact ⟨he, .inr ⟨_, upto_take _ hk, hj⟩⟩
def wrt (pre : List Lb) : List UInt8 := pre.flatMap fun x => dl x.1.2 9
theorem wrt_snoc (pre : List Lb) (x : Lb) : wrt (pre ++ [x]) = wrt pre ++ dl x.1.2 9 := by simp [wrt]
theorem wrt_len (pre : List Lb) : (wrt pre).length = 9 * pre.length := by
  induction pre with
  | nil => rfl
  | cons x l ih => simp only [wrt, List.flatMap_cons, List.length_append, dl_len, List.length_cons] at ih ⊢; omega
def St76 (w : World) (B : Nat) (S : Value) (pre : List Lb) (W : World) : Prop := Lib.IsBuilderF 128 5 B B (Lib.byteCells (wrt pre)) W ∧ Below w.heap.size w W ∧ W.heap[B + 1]? = some (.cells #[S] 84 (0, 0))
theorem keepsOf {W W' : World} {b : Nat} {T : TypeId} {cs : Array Value} {fz : Nat × Nat} (hb : W.heap[b]? = some (.cells cs T fz)) (hs : W.heap.size ≤ W'.heap.size) (h : Lib.OthersKept 5 (some b) W W') : KeepsOthers W W' :=
  ⟨hs, fun k o hk ho => h k o hk (fun e => by injection e with e; subst e; rw [hb] at hk; injection hk with hk; subst hk; cases ho) (fun c fz e => by subst e; cases ho)⟩
theorem bld_same {b : Nat} {p : Value} {bs : List Value} {W W' : World} {B : Nat} (h : Lib.BuilderAtF 128 5 B b p bs W) (hk : ∀ (k : Nat) (o : Obj), W.heap[k]? = some o → o.isCells = true → W'.heap[k]? = some o) : Lib.BuilderAtF 128 5 B b p bs W' := by
  obtain ⟨hB, v, hb, ⟨ho1, ho⟩, hne⟩ := h
  refine ⟨hB, v, hk _ _ hb rfl, ⟨ho1, ?_⟩, hne⟩
  rcases ho with ho | ⟨g, cap, cur, fz, h1, h2, h3, h4⟩
  · exact .inl ho
  · exact .inr ⟨g, cap, cur, fz, h1, h2, hk _ _ h3 rfl, h4⟩
theorem isb_same {b : Nat} {bs : List Value} {W W' : World} {B : Nat} (h : Lib.IsBuilderF 128 5 B b bs W) (hk : ∀ (k : Nat) (o : Obj), W.heap[k]? = some o → o.isCells = true → W'.heap[k]? = some o) : Lib.IsBuilderF 128 5 B b bs W' := h.elim (fun h => .inl (bld_same h hk)) (fun h => .inr (bld_same h hk))
theorem isb_block {b : Nat} {bs : List Value} {W : World} {B : Nat} (h : Lib.IsBuilderF 128 5 B b bs W) : ∃ cs, W.heap[b]? = some (.cells cs 128 (0, 0)) := by
  rcases h with ⟨_, v, hb, _⟩ | ⟨_, v, hb, _⟩
  · exact ⟨_, hb⟩
  · exact ⟨_, hb⟩
theorem same_below {W W' : World} (h : Below W.heap.size W W') : ∀ (k : Nat) (o : Obj), W.heap[k]? = some o → W'.heap[k]? = some o := fun k o hk => (h.block k (Array.getElem?_eq_some_iff.1 hk).1).trans hk
theorem st76_own (w : World) (B n : Nat) (S : Value) (hB : w.heap.size ≤ n) : OwnFrom n (St76 w B S) := by
  intro s W W' row hs hg hr
  have hk : ∀ (k : Nat) (o : Obj), W.heap[k]? = some o → o.isCells = true → W'.heap[k]? = some o := fun k o hk hc => (hg.block k (Array.getElem?_eq_some_iff.1 hk).1 fun e => by
    obtain ⟨_, o', ho', hc'⟩ := hr k e.symm
    rw [hk] at ho'
    injection ho' with ho'
    subst ho'
    rw [hc] at hc'
    cases hc').trans hk
  exact ⟨isb_same hs.1 hk, hs.2.1.grown hg hs.2.1.size (fun k e => Nat.le_trans hB (hr k e).1), hk _ _ hs.2.2 rfl⟩
set_option maxHeartbeats 4000000 in
theorem walk76 (A : Option Addr) (len cap : Nat) (xs : Nat → Nat) (hx : ∀ j, xs j < 1000000000) (hreach : len ≤ 1000000) (w : World)
    (hI : len ≠ 0 → ∃ b off, A = some ⟨b, off, none⟩ ∧ b < w.heap.size ∧ ∀ j, j < len → w.cell? ⟨b, off + j, none⟩ = some (.int .u32 (xs j : Nat)))
    (h103 : ∀ (W : World) (n : Nat), Below w.heap.size w W → n < 1000000000 → Calls Tryz.prog 103 #[.int .u32 n] W fun e W' => e = .returned (.string ⟨(dl n 9).toArray⟩) ∧ Below W.heap.size W W')
    (out : List UInt8) (hout : out = if strip (wrt (upto (lbAt len xs hx) len)) = [] then [48] else strip (wrt (upto (lbAt len xs hx) len))) :
    CallsIn Fence.wide 5 Tryz.prog 76 #[.slice A len cap] w fun e W' => e = .returned (.string ⟨out.toArray⟩) ∧ Below w.heap.size w W' := by
  have Ho := Lib.hid hout
  clear hout
  have f101 : Fence.wide.fn 101 := trivial
  have f102 : Fence.wide.fn 102 := trivial
  have f103 : Fence.wide.fn 103 := trivial
  have f104 : Fence.wide.fn 104 := trivial
  have f93 : Fence.wide.fn 93 := trivial
  refine callsIn_of_wp_marks Tryz.func76 rfl trivial ?_ rfl
  simp only [Tryz.ntmps76, List.size_toArray, List.length_cons, List.length_nil, Nat.reduceAdd, Nat.reduceSub, Array.replicate_succ, Array.replicate_zero, List.push_toArray, List.append_toArray, List.nil_append, List.cons_append]
  gi_wp2_with (gi_at_call 101; refine (back_in Fence.wide 4 trivial rfl _ _ _ _).mono ?_; rintro e w' ⟨rfl, rfl⟩)
  obtain ⟨w2, hw2⟩ : ∃ w2, (w.alloc (Obj.cells #[Value.pointer none, Value.slice none 0 0] 128)).alloc (Obj.cells #[Value.slice A len cap] 84) = w2 := ⟨_, rfl⟩
  rw [hw2]
  have hsz : w2.heap.size = w.heap.size + 2 := by rw [← hw2, World.size_alloc, World.size_alloc]
  have hbel : Below w.heap.size w w2 := by rw [← hw2]; exact ((Below.refl _ w).alloc (Nat.le_refl _) _).alloc (by simp) _
  have hB2 : w2.heap[w.heap.size]? = some (.cells #[.pointer none, .slice none 0 0] 128 (0, 0)) := by rw [← hw2]; exact heap_alloc2_old w _ _
  have hS2 : w2.heap[w.heap.size + 1]? = some (.cells #[.slice A len cap] 84 (0, 0)) := by rw [← hw2]; exact heap_alloc2_new w _ _
  have hbld : Lib.IsBuilderF 128 5 w.heap.size w.heap.size (Lib.byteCells (wrt [])) w2 := .inl ⟨Nat.le_refl _, _, hB2, World.ownsRowF_nil _ _ _ _, by simp [Value.ownBlock]⟩
  clear hw2
  refine wpIn_rangeFunc_ownF (F := Fence.wide) (n := 5) rfl (by omega) (gf := 134) (lb := #[.pointer (some ⟨w.heap.size + 1, 0, none⟩)]) rfl trivial (enters_of Tryz.func134 (by kernel_rfl) rfl)
    (back_stops Fence.wide 4 trivial rfl (by omega) (w.heap.size + 1) (w.heap.size + 2) w.heap.size A len cap xs hx hreach w2 (by omega) (by omega) (by omega) (by rw [Lib.cell_of_heap hS2]; rfl)
      (fun h => by
        obtain ⟨b, off, ha, hb, hc⟩ := hI h
        exact ⟨b, off, ha, ⟨by omega, by omega⟩, fun j hj => (hbel.cell (p := ⟨b, off + j, none⟩) hb).trans (hc j hj)⟩))
    (fun h h' => h.trans h') (fun W l o o' hl ho _ _ k hk _ => World.putObj_heap_other (by omega)) (Below.refl _ _) (fun _ => rfl)
    (St76 w w.heap.size (.slice A len cap)) (fun _ _ _ => False) (st76_own w _ _ _ (by omega)) (fun _ _ _ _ _ hs _ _ => hs) ⟨hbld, hbel, hS2⟩
    (fun x => { tmps := #[Value.slice A len cap, undef, Value.string { data := #[] }, Value.pointer (some { block := w.heap.size, off := 0 }), undef, .int .u32 (x.1.2 : Nat), undef, Value.slice A len cap, Value.func (Fn.func 134) #[] #[Value.pointer (some { block := w.heap.size + 1, off := 0 })], .int .i64 (x.1.1 : Nat), .int .u32 (x.1.2 : Nat), undef, undef, undef, undef, undef, undef, undef, undef], defers := [] }) ?assign ?body ?done ?stop
  case assign =>
    intro l x W K hK
    simp only [encL]
    gi_wp2
    exact hK
  case body =>
    rintro l pre x W ⟨hb, hbw, hS⟩ hlen
    obtain ⟨cs0, hcs0⟩ := isb_block hb
    gi_wp2_with (gi_at_call 103; refine (CallsIn.inRound l (callsIn_wide.2 (h103 _ _ hbw x.2))).mono ?_; rintro e W1 ⟨rfl, b1⟩)
    have hb1 := isb_same hb (W' := W1) (fun k o hk _ => same_below b1 k o hk)
    have hcs1 := same_below b1 _ _ hcs0
    have hs9 : (⟨(dl x.1.2 9).toArray⟩ : ByteArray).size = 9 := by simp [ByteArray.size, dl_len]
    refine (CallsIn.inRound l (callsIn_wide.2 (bldStr w.heap.size w.heap.size _ _ W1 hb1 (by rw [Lib.byteCells_length, wrt_len, hs9]; omega) (by have := hbw.size; have := b1.size; omega)))).mono ?_
    rintro e W2 ⟨rfl, h2, b2, k2⟩
    have hfin : KeepsOthers W W2 ∧ Kb (w.heap.size + 2) w.heap.size W W2 ∧ St76 w w.heap.size (.slice A len cap) (pre ++ [x]) W2 := by
      have hS1 := same_below b1 _ _ hS
      have hS2' := k2 _ _ hS1 (by intro e; injection e with e; omega) (fun c fz e => by injection e with e1 e2 e3; cases e2)
      refine ⟨KeepsOthers.trans ⟨b1.size, fun k o hk _ => same_below b1 k o hk⟩ (keepsOf hcs1 b2.size k2), fun k h1 h2 => ?_, ?_, (hbw.trans (b1.mono hbw.size)).trans b2, hS2'⟩
      · by_cases hk : k < w.heap.size
        · rw [b2.block k hk, b1.block k (Nat.lt_of_lt_of_le hk hbw.size)]
        · have : k = w.heap.size + 1 := by omega
          subst this
          rw [hS2', hS]
      · rw [wrt_snoc, Lib.byteCells_append]
        exact .inr h2
    gi_wp2
    exact hfin
  case done =>
    rintro D ys W hD rfl ⟨hb, hbw, hS⟩ hK
    have hnorm : ∃ cs, W.heap[w.heap.size]? = some (.cells cs 128 (0, 0)) := isb_block hb
    gi_wp2_with (gi_at_call 104; refine (callsIn_wide.2 (Tryz.Builder_String_any_k w.heap.size w.heap.size _ W hb hbw.size)).mono ?_; rintro e W1 ⟨rfl, h1, b1, k1⟩)
    have hK1 : W1.heap[D]? = some (.deferred (some [])) := k1 _ _ hK (by intro e; injection e with e; omega) (fun c fz e => by cases e)
    have ht : Lib.trimLeftB (⟨(wrt (upto (lbAt len xs hx) len)).toArray⟩ : ByteArray).data.toList 48 = strip (wrt (upto (lbAt len xs hx) len)) := rfl
    refine (callsIn_wide.2 (Tryz.strings_TrimLeft_one ⟨(wrt (upto (lbAt len xs hx) len)).toArray⟩ 48 (by decide) W1)).mono ?_
    rintro e w' ⟨rfl, rfl⟩
    rw [ht]
    generalize strip (wrt (upto (lbAt len xs hx) len)) = t at *
    clear ht
    cases t with
    | nil =>
      gi_wp2
      refine ⟨by simp, .inl ⟨_, _, rfl, run_takeDeferred hK1, ?_⟩⟩
      exact ⟨_, results_tmp rfl _ _ _, by rw [Ho.out]; rfl, (hbw.trans b1).trans (belowK_b (w := w) (Nat.le_refl _) _ D _ _ (by omega) hK1 rfl rfl)⟩
    | cons c t =>
      gi_wp2
      refine ⟨by simp, .inl ⟨_, _, rfl, run_takeDeferred hK1, ?_⟩⟩
      exact ⟨_, results_tmp rfl _ _ _, by rw [Ho.out]; rfl, (hbw.trans b1).trans (belowK_b (w := w) (Nat.le_refl _) _ D _ _ (by omega) hK1 rfl rfl)⟩
  case stop =>
    rintro D c pre W _ _ h _
    exact h.elim
theorem wrt_dgs (pre : List Lb) : dgs (wrt pre) = true := by
  induction pre with
  | nil => rfl
  | cons x l ih => simp only [wrt, List.flatMap_cons] at ih ⊢; exact dgs_append.2 ⟨dl_dgs _ _, ih⟩
theorem wrt_dv (xs : List Nat) (hx : ∀ j, xs.getD j 0 < 1000000000) : ∀ k, k ≤ xs.length → dv (wrt (upto (lbAt xs.length (fun j => xs.getD j 0) hx) k)) = lv (xs.drop (xs.length - k))
  | 0, _ => by rw [Nat.sub_zero, List.drop_length]; rfl
  | k + 1, hk => by
    have hlt : xs.length - (k + 1) < xs.length := by omega
    rw [upto_succ, wrt_snoc, dv_append, wrt_dv xs hx k (by omega), dl_len, dl_dv, lv_drop hlt]
    have e1 : xs.length - 1 - k = xs.length - (k + 1) := by omega
    have e2 : xs.length - (k + 1) + 1 = xs.length - k := by omega
    have h9 := hx (xs.length - (k + 1))
    simp only [lbAt]
    rw [e1, e2, Nat.mod_eq_of_lt (by simpa using h9)]
    generalize lv (xs.drop (xs.length - k)) = y
    generalize xs.getD (xs.length - (k + 1)) 0 = z
    omega
theorem con76 {xs : List Nat} (hl : xs.length < 100000) (hx : ok xs) : Fn 76 [L xs] (.str (text (lv xs))) := by
  intro w C us hC hG hr
  obtain ⟨v, rfl, hv⟩ := relL_inv1 hr
  obtain ⟨A, cap, he, hA, hne⟩ := (TRel.of_rel (μ := fun _ => v) hv).sl_inv
  subst he
  rw [List.length_map]
  have hx' : ∀ j, xs.getD j 0 < 1000000000 := ok_get hx
  have hdv := wrt_dv xs hx' xs.length (Nat.le_refl _)
  rw [Nat.sub_self, List.drop_zero] at hdv
  have hout : text (lv xs) = if strip (wrt (upto (lbAt xs.length (fun j => xs.getD j 0) hx') xs.length)) = [] then [48] else strip (wrt (upto (lbAt xs.length (fun j => xs.getD j 0) hx') xs.length)) := by
    rw [← digs_dv (wrt_dgs _), hdv]
    unfold text
    by_cases h0 : lv xs = 0
    · rw [if_pos h0, if_pos (digs_nil.2 h0)]
    · rw [if_neg h0, if_neg (fun e => h0 (digs_nil.1 e))]
  refine (callsIn_wide.1 (walk76 A xs.length cap (fun j => xs.getD j 0) hx' (by omega) w (fun h => ?_) (fun W n hb hn => ?_) _ hout)).mono ?_
  · obtain ⟨b, off, us, ha, hc, hxx, hs, hq⟩ := hne (by intro e; have := congrArg List.length e; simp at this; rw [this] at h; exact h rfl)
    have hcell : ∀ j, j < xs.length → C b (off + j) ∧ w.cell? ⟨b, off + j, none⟩ = some (.int .u32 (xs.getD j 0 : Nat)) := by
      intro j hj
      have hxj : (xs.map u32)[j]? = some (u32 (xs.getD j 0)) := by
        rw [List.getElem?_map, List.getElem?_eq_getElem hj, List.getD_eq_getElem?_getD, List.getElem?_eq_getElem hj]; rfl
      have hu := u32_cells (hxx j _ hxj)
      have h2 := hq j 0 (us j) (by rw [List.length_map]; exact hj) (by rw [hu]; rfl)
      rw [Nat.mul_one, Nat.add_zero, hu] at h2
      exact h2
    exact ⟨b, off, ha, hC _ _ (hcell 0 (by omega)).1, fun j hj => (hcell j hj).2⟩
  · have hG' : GRel gs C W := hG.mono (fun _ _ h => h) fun b o hc => cell_same (hb.block b (hC b o hc)) o
    refine (con103 (n := n) (by omega) W C #[.int .u32 n] (fun b o hc => Nat.lt_of_lt_of_le (hC b o hc) hb.size) hG' (RelL.cons (.int _ _) (RelL.nil _ _))).mono ?_
    rintro e W' ⟨u, C', rfl, h1, _, _, h2⟩
    cases h2
    exact ⟨rfl, h1⟩
  · rintro e w' ⟨rfl, hb⟩
    exact ⟨_, C, rfl, hb, fun _ _ h => h, fun b o h => ⟨Nat.lt_of_lt_of_le (hC b o h) hb.size, .inl h⟩, .str _⟩
end Go.Proofs.YtgehlcgjchfibaaGreatDoor.F
