/-
  What the functions that the laws call compute, for every input that the statements allow (part 2): for the claims up to a bulk of 1048576.
-/
import Derived.Test.YtgehlcgjchfibaaGreatDoorZ01
import Derived.Deep.LoopGhost
import Derived.Test.YtgehlcgjchfibaaGreatDoorProg
import Derived.Test.YtgehlcgjchfibaaGreatDoorChecked
set_option linter.unusedVariables false
set_option linter.unusedSimpArgs false
set_option maxRecDepth 100000
set_option linter.defProp false
namespace Go.Proofs.YtgehlcgjchfibaaGreatDoor.F
open Go Go.RowKit
def St.newD (s : St) (d : Nat) (b : Ob) : St := ⟨(d, .box d 0) :: s.t, (d, b) :: s.o⟩
def Hint.isAny : Hint → Bool
  | .any => true
  | _ => false
def refOk (G : List (Nat × AV)) (s : St) : List Opd → Prop
  | [] => True
  | y :: ys => (match opd G s y with | some v => v.plain = true | none => True) ∧ refOk G s ys
theorem refOk_mem {G : List (Nat × AV)} {s : St} : ∀ {ys : List Opd} {y : Opd}, refOk G s ys → y ∈ ys → (match opd G s y with | some v => v.plain = true | none => True)
  | [], y, _, hy => by simp at hy
  | z :: ys, y, h, hy => by
    rcases List.mem_cons.1 hy with hy | hy
    · subst hy; exact h.1
    · exact refOk_mem h.2 hy
def okR (G : List (Nat × AV)) (s : St) (h : Hint) (op : IOp) : Prop :=
  match h with
  | .any => True
  | .ref => refOk G s op.opds
  | .at i off n => match op with
    | .ld m x => match opd G s x with | some (.box i' off') => i' = i ∧ off' = off ∧ szOf m = n | _ => False
    | _ => False
def okW (h : Hint) (i off n : Nat) : Prop :=
  match h with
  | .any => True
  | .ref => False
  | .at i' off' n' => i' = i ∧ off' = off ∧ n' = n
def E1D (X : Env) (o : IOper) (K : St → Prop) (s : St) : Prop :=
  match o.op with
  | .alloc T z => match o.d with | some d => K (s.newD d (.box T z)) | none => False
  | .box T x => match o.d, val X.G s x with
    | some d, some (.agg cs) => K (s.newD d (.box T cs))
    | _, _ => False
  | .st n x y => match opd X.G s x, val X.G s y with
    | some (.box i off), some v => match look s.o i with
      | some (.box T cs) => (o.d = none ∧ (avCells v).length = n ∧ off + n ≤ cs.length ∧ okW o.h i off n) ∧ K (s.upd i (.box T (splice cs off (avCells v))))
      | _ => False
    | some (.elt i j), some v => match look s.o i with
      | some (.row E sz xs) => (o.d = none ∧ n = 1 ∧ sz = 1 ∧ j < xs.length ∧ v.one = true ∧ o.h.isAny = true) ∧ K (s.upd i (.row E sz (xs.set j v)))
      | _ => False
    | _, _ => False
  | .call f xs => match argV X.G s xs with
    | some vs => callD X f vs o.d K s
    | none => False
  | .dcall x xs => match opd X.G s x, argV X.G s xs with
    | some (.fn f), some vs => okF X.P f = true ∧ callD X f vs o.d K s
    | _, _ => False
  | .lit own E sz ps => match o.d, valsV X.G s sz ps with
    | some d, some vs => own = false ∧ K (s.put d (.sl sz vs))
    | _, _ => False
  | .mk E bytes z n c => match o.d, opd X.G s n, opd X.G s c with
    | some d, some (.int .i64 n), some (.int .i64 c) => (0 ≤ n ∧ n ≤ c ∧ c * bytes ≤ 281474976710656 ∧ c ≤ 281474976710656) ∧ K ⟨(d, .own d) :: s.t, (d, .row E 1 (List.replicate n.toNat z)) :: s.o⟩
    | _, _, _ => False
  | .app E sz bytes a x => match o.d, opd X.G s a, val X.G s x with
    | some d, some (.own i), some (.sl sz' ys) => match look s.o i with
      | some (.row E' sz'' xs) => (i ≠ pinned ∧ o.h.isAny = true ∧ E' = E ∧ sz'' = sz ∧ sz' = sz ∧ (xs.length + ys.length) * bytes ≤ 140737488355328 ∧ xs.length + ys.length ≤ 140737488355328) ∧ K ⟨(d, .sl sz (xs ++ ys)) :: s.t, dropO i s.o⟩
      | _ => False
    | _, _, _ => False
  | op => match pureV X.G s op with
    | some (p, v) => (p ∧ okR X.G s o.h op) ∧ K (s.putD o.d v)
    | none => False
def ERD (X : Env) : List IOper → (St → Prop) → St → Prop
  | [], K, s => K s
  | o :: os, K, s => match o.g with
    | none => E1D X o (ERD X os K) s
    | some (g, want) => match look s.t g with
      | some (.bool b) => if b = want then E1D X o (ERD X os K) s else ERD X os K (s.putD o.d (.tup []))
      | some (.tup []) => ERD X os K (s.putD o.d (.tup []))
      | _ => False
inductive Deed where
  | put (d : Option Nat) (v : AV)
  | new (d T : Nat) (cs : List AV)
  | st (i off : Nat) (vs : List AV)
  | newr (d E sz : Nat) (xs : List AV)
  | fapp (d i sz : Nat) (zs : List AV)
  | els (i j : Nat) (v : AV)
def over (cs : List AV) (off : Nat) (vs : List AV) : List AV := if off + vs.length ≤ cs.length then splice cs off vs else cs
def overO (off : Nat) (vs : List AV) : Option Ob → Option Ob
  | some (.box Ty cs) => some (.box Ty (over cs off vs))
  | b => b
def setR (j : Nat) (v : AV) : Option Ob → Option Ob
  | some (.row E sz xs) => some (.row E sz (xs.set j v))
  | b => b
def Deed.t : Deed → (Nat → Option AV) → Nat → Option AV
  | .put d v, T => putF T d v
  | .new d _ _, T => setF T d (some (.box d 0))
  | .st _ _ _, T => T
  | .newr d _ _ _, T => setF T d (some (.own d))
  | .fapp d _ sz zs, T => setF T d (some (.sl sz zs))
  | .els _ _ _, T => T
def Deed.o : Deed → (Nat → Option Ob) → Nat → Option Ob
  | .put _ _, O => O
  | .new d Ty cs, O => setF O d (some (.box Ty cs))
  | .st i off vs, O => fun j => if j = i then overO off vs (O i) else O j
  | .newr d E sz xs, O => setF O d (some (.row E sz xs))
  | .fapp _ i _ _, O => setF O i none
  | .els i j v, O => fun k => if k = i then setR j v (O i) else O k
def Deed.mks : Deed → Option Nat
  | .new d _ _ => some d
  | .newr d _ _ _ => some d
  | _ => none
def Deed.on : Deed → Option Nat
  | .st i _ _ => some i
  | .fapp _ i _ _ => some i
  | .els i _ _ => some i
  | _ => none
def Deed.w : Deed → Option Nat
  | .put d _ => d
  | .new d _ _ => some d
  | .st _ _ _ => none
  | .newr d _ _ _ => some d
  | .fapp d _ _ _ => some d
  | .els _ _ _ => none
def IOp.isNew : IOp → Bool
  | .alloc _ _ | .box _ _ | .mk _ _ _ _ _ => true
  | _ => false
def IOp.isApp : IOp → Bool
  | .app _ _ _ _ _ => true
  | _ => false
def IOp.isSt : IOp → Bool
  | .st _ _ _ => true
  | _ => false
def Deed.of (o : IOper) : Deed → Prop
  | .put d _ => d = o.d
  | .new d _ _ => o.d = some d ∧ o.op.isNew = true
  | .st i off vs => o.d = none ∧ o.op.isSt = true ∧ okW o.h i off vs.length
  | .newr d _ _ _ => o.d = some d ∧ o.op.isNew = true
  | .fapp d _ _ _ => o.d = some d ∧ o.op.isApp = true ∧ o.h.isAny = true
  | .els _ _ _ => o.d = none ∧ o.op.isSt = true ∧ o.h.isAny = true
def Deed.s (δ : Deed) (s s' : St) : Prop := look s'.t = δ.t (look s.t) ∧ look s'.o = δ.o (look s.o)
def same (c : Nat → Prop) : Option Ob → Option Ob → Prop
  | some (.box T cs), some (.box T' cs') => T = T' ∧ cs.length = cs'.length ∧ ∀ k, c k → cs[k]? = cs'[k]?
  | some (.row E sz xs), some (.row E' sz' xs') => E = E' ∧ sz = sz' ∧ xs = xs'
  | some (.iter s p), some (.iter s' p') => s = s' ∧ p = p'
  | none, none => True
  | _, _ => False
theorem same.rfl' (c : Nat → Prop) (b : Option Ob) : same c b b := by
  cases b with
  | none => trivial
  | some b => cases b <;> simp [same]
theorem same.eq {b b' : Option Ob} (h : same (fun _ => True) b b') : b = b' := by
  unfold same at h
  split at h
  · obtain ⟨rfl, _, h⟩ := h
    rw [List.ext_getElem? (fun k => h k trivial)]
  · obtain ⟨rfl, rfl, rfl⟩ := h; rfl
  · obtain ⟨rfl, rfl⟩ := h; rfl
  · rfl
  · exact h.elim
def cellsRd (o : IOper) (k : Nat) : Prop :=
  match o.h with
  | .any => o.op.rd = true
  | .ref => False
  | .at _ off n => o.op.rd = true ∧ off ≤ k ∧ k < off + n
def objRd (o : IOper) (j : Nat) : Prop :=
  match o.h with
  | .any => o.op.rd = true ∨ o.op.isSt = true ∨ o.op.isApp = true
  | .ref => False
  | .at i _ _ => (o.op.rd = true ∨ o.op.isSt = true ∨ o.op.isApp = true) ∧ j = i
section
variable {X : Ctx} {s : St} {a : Act} {w : World} {μ : Nat → Value} {C : Nat → Nat → Prop} {T : Nat → Option AV} {O : Nat → Option Ob}
theorem over_of {cs vs : List AV} {off : Nat} (h : off + vs.length ≤ cs.length) : over cs off vs = splice cs off vs := by simp [over, h]
theorem look_upd_st {s : St} {i off : Nat} {Ty : TypeId} {cs vs : List AV} (h : look s.o i = some (.box Ty cs)) (hl : off + vs.length ≤ cs.length) : look (s.upd i (.box Ty (splice cs off vs))).o = (Deed.st i off vs).o (look s.o) := by
  funext j
  simp only [St.upd, look, Deed.o]
  by_cases e : i = j
  · subst e; simp [h, overO, over_of hl]
  · simp [e, Ne.symm e]
theorem nid_of_free (h : InvAt X μ C T O a w) {d : Nat} (hd : μ d = .bool false) : ∀ t v, T t = some v → v.nid d = true := by
  intro t v ht
  obtain ⟨u, _, hr⟩ := h.tm t v ht
  cases v <;> simp only [AV.nid, bne_iff_ne, ne_eq] <;> intro e <;> subst e
  · obtain ⟨g, h1, _⟩ := hr; rw [hd] at h1; cases h1
  · obtain ⟨_, A, n, c, h1⟩ := hr; rw [hd] at h1; cases h1
  · obtain ⟨g, n, c, h1, _⟩ := hr; rw [hd] at h1; cases h1
theorem kill_free (h : InvAt X μ C T O a w) {d : Nat} (hd : μ d = .bool false) : (fun t => killF d (T t)) = T := by
  funext t
  cases ht : T t with
  | none => rfl
  | some v => simp [killF, nid_of_free h hd t v ht]
theorem plain_nid {v : AV} (h : v.plain = true) (i : Nat) : v.nid i = true := by cases v <;> first | rfl | (simp [AV.plain] at h; done)
theorem held_of {v : AV} {u : Value} {i : Nat} (h : TRel μ C w v u) (hv : v.nid i = false) : μ i ≠ .bool false := by
  intro hd
  cases v <;> simp only [AV.nid, bne_eq_false_iff_eq, Bool.true_eq_false] at hv <;> subst hv
  · obtain ⟨g, h1, _⟩ := h; rw [hd] at h1; cases h1
  · obtain ⟨_, A, n, c, h1⟩ := h; rw [hd] at h1; cases h1
  · obtain ⟨g, n, c, h1, _⟩ := h; rw [hd] at h1; cases h1
theorem InvAt.knowU (h : InvAt X μ C T O a w) (s : St) (rd : Bool) (ys : List Opd) (hT : ∀ n, Opd.t n ∈ ys → look s.t n = T n)
    (hO : rd = true → ∀ y ∈ ys, ∀ v i b, opd X.G s y = some v → v.nid i = false → μ i ≠ .bool false → look s.o i = some b → O i = some b) : Know ⟨X.P, X.G⟩ X.ow μ C w s a rd ys := by
  intro y hy x hx v hv
  have h1 := (h.knowT s false ys hT (by simp) y hy x hx v hv).1
  exact ⟨h1, fun hr i b hn hi => h.ob i b (hO hr y hy v i b hv hn (held_of h1 hn) hi)⟩
theorem compOpd_const {x : Operand} {i off : Nat} : compOpd x ≠ some (.c (.box i off)) := by
  intro h
  cases x with
  | tmp n => simp [compOpd] at h
  | const u =>
    simp only [compOpd, Option.map_eq_some_iff, Opd.c.injEq] at h
    obtain ⟨z, hz, rfl⟩ := h
    unfold constAV at hz
    split at hz <;> simp at hz
  | global n => simp [compOpd] at h
  | func f => simp [compOpd] at h
theorem compOp_const {ow : List Nat} {o : Oper} {i off : Nat} (m : Option Nat) (P : Program) : compOp P ow o ≠ some (.ld m (.c (.box i off))) := by
  intro h
  unfold compOp at h
  repeat' split at h
  all_goals first | (cases h; done) | (exact (callI_no h rfl).elim) | (simp only [Option.map_eq_some_iff, reduceCtorEq, and_false, exists_false, false_and, Option.some.injEq] at h; done) | skip
  all_goals simp_all [compOpd_const]
theorem cut_same {cs cs' : List AV} {off : Nat} {m : Option Nat} (hl : cs.length = cs'.length) (h : ∀ k, off ≤ k ∧ k < off + szOf m → cs[k]? = cs'[k]?) : cut cs' off m = cut cs off m := by
  cases m with
  | none => simp only [cut]; exact (h off ⟨Nat.le_refl _, by simp [szOf]⟩).symm
  | some n =>
    simp only [cut, hl]
    split
    · congr 2
      apply List.ext_getElem?
      intro k
      simp only [List.getElem?_take, List.getElem?_drop]
      split
      · exact (h (off + k) ⟨by omega, by simp only [szOf]; omega⟩).symm
      · rfl
    · rfl
theorem look_dropO_ne {i j : Nat} (h : i ≠ j) : ∀ {l : List (Nat × Ob)}, look (dropO i l) j = look l j
  | [] => rfl
  | p :: l => by
    simp only [dropO, List.filter_cons, look]
    split
    · simp only [look]
      split
      · rfl
      · exact look_dropO_ne h
    · rename_i hp
      have hp : p.1 = i := by simpa using hp
      rw [if_neg (by rw [hp]; exact h)]
      exact look_dropO_ne h
theorem row_rel {C : Nat → Nat → Prop} {w : World} {own : Nat → Prop} {E sz : Nat} {xs : List AV} {m : Value} (h : ObRel C w own (.row E sz xs) m) : Rel (fun b o => C b o ∨ mblk m = some b) w (.sl sz xs) m := by
  obtain ⟨us, hr, h1, ho, hn⟩ := h
  have hlen : us.length = xs.length := hr.1.symm
  rcases ho.2 with ⟨he, hz⟩ | ⟨g, cap, cur, he, hb, hh, hc, hm, hcs, ht⟩
  · have : xs = [] := List.eq_nil_of_length_eq_zero hz
    subst this
    rw [he]
    exact .sl0 _ _ _ (by simp)
  · have hmb : mblk m = some g := by rw [he]; rfl
    have hcell := ho.cells (g := g) (by rw [he]; rfl)
    rw [hmb]
    rw [he]
    refine .sl sz xs g 0 cap (fun k => us.getD k undef) hc (fun k x hx => ?_) (fun k hk => ?_) (fun k j c hk hj => ?_)
    · have hk : k < us.length := by rw [hlen]; exact (List.getElem?_eq_some_iff.1 hx).1
      simp only [List.getD_eq_getElem?_getD, List.getElem?_eq_getElem hk, Option.getD_some]
      exact (hr.2 k x _ hx (List.getElem?_eq_getElem hk)).mono (fun _ _ h => .inl h) (fun _ _ _ => rfl)
    · have hk' : k < us.length := by omega
      simp only [List.getD_eq_getElem?_getD, List.getElem?_eq_getElem hk', Option.getD_some]
      exact h1 _ (List.getElem_mem hk')
    · have hk' : k < us.length := by omega
      simp only [List.getD_eq_getElem?_getD, List.getElem?_eq_getElem hk', Option.getD_some] at hj
      refine ⟨.inr rfl, ?_⟩
      have hf := flat_getElem us (fun u hu => (h1 u hu).1) k us[k] j c (List.getElem?_eq_getElem hk') hj
      have := hcell (k * sz + j) c hf
      rw [Addr.add_mid] at this
      simpa using this
theorem InvAt.fapp (h : InvAt X μ C T O a w) {d i E sz : Nat} (hd : d < X.nt) {zs : List AV} {u : Value} {w' : World} (h1 : InvAt X (updμ μ i u) C (setF (fun t => killF i (T t)) d (some (.own i))) (setF O i (some (.row E sz zs))) (a.put (some d) u) w') (hip : i ≠ pinned) :
    InvAt X μ (fun b o => C b o ∨ mblk u = some b) (setF T d (some (.sl sz zs))) (setF O i none) (a.put (some d) u) w' := by
  have hob := h1.ob i (.row E sz zs) (by simp [setF])
  rw [show updμ μ i u i = u by simp [updμ]] at hob
  have hlt := hob.lt
  refine ⟨fun t v ht => ?_, fun j b hj => ?_, fun j k b c hj hk hne => ?_, fun b o hc => ?_, fun b o hc => .inl (h.c0 b o hc), h1.gr.mono (fun _ _ h => .inl h) (fun _ _ _ => rfl), h1.be, h1.sz, h1.df, h.nw, h.pn, h.nb⟩
  · rw [put_get a d u t (by rw [h.sz]; exact hd)]
    simp only [setF] at ht
    split at ht
    · rename_i e
      injection ht with ht; subst ht
      exact ⟨u, by rw [if_pos e], .of_rel (row_rel hob)⟩
    · rename_i e
      rw [if_neg e]
      by_cases hn : v.nid i = true
      · obtain ⟨u', hu', hr'⟩ := h1.tm t v (by simp [setF, e, ht, killF, hn])
        rw [put_get a d u t (by rw [h.sz]; exact hd), if_neg e] at hu'
        refine ⟨u', hu', TRel.mono (C := C) (w := w') (fun _ _ h => .inl h) (fun _ _ _ => rfl) ?_⟩
        cases v <;> first | exact hr' | (simp only [AV.nid, bne_iff_ne, ne_eq] at hn; simpa [TRel, F.updμ, Ne.symm hn] using hr')
      · obtain ⟨u', hu', hr'⟩ := h.tm t v ht
        refine ⟨u', hu', ?_⟩
        cases v <;> first | exact hr' | (simp [AV.nid] at hn; done)
  · simp only [setF] at hj
    split at hj
    · cases hj
    · rename_i e
      have := h1.ob j b (by simp [setF, e, hj])
      rw [show updμ μ i u j = μ j by simp [updμ, Ne.symm e]] at this
      refine this.kept (fun _ _ h => .inl h) (fun _ _ _ => rfl) fun g hg => ⟨rfl, fun o hc => hc.resolve_right fun he => ?_⟩
      have hap := h1.ap i j _ b (by simp [setF]; rfl) (by simp [setF, e, hj]) e
      rw [show updμ μ i u i = u by simp [updμ], show updμ μ i u j = μ j by simp [updμ, Ne.symm e]] at hap
      rcases hap with hap | hap
      · rw [he] at hap; cases hap
      · exact hap (he.trans hg.symm)
  · simp only [setF] at hj hk
    split at hj
    · cases hj
    · split at hk
      · cases hk
      · exact h.ap j k b c hj hk hne
  · rcases hc with hc | hc
    · exact h1.cw b o hc
    · exact ⟨(hlt b hc).2.1, .inr (hlt b hc).1⟩
theorem valsV_len {G : List (Nat × AV)} {s : St} {sz : Nat} : ∀ (ps : List Opd) (vs : List AV), valsV G s sz ps = some vs → ps.length = vs.length
  | [], vs, h => by simp [valsV] at h; subst h; rfl
  | p :: ps, vs, h => by
    simp only [valsV] at h
    split at h
    · split at h
      · injection h with h; subst h; simp [valsV_len ps _ (by assumption)]
      · cases h
    · cases h
theorem E1D_sound {ow : List Nat} {o : Oper} {iop : IOper} (hc : compOp X.P ow o = some iop.op) (hdd : iop.d = o.dst) (hd : ∀ d, o.dst = some d → d < X.nt) {K : St → Prop} (he : E1D ⟨X.P, X.G⟩ iop K s) (Q : Exit → Act → World → Prop) :
    ∃ δ s', Deed.of iop δ ∧ δ.s s s' ∧ K s' ∧ (∀ i, δ.on = some i → ∃ b, look s.o i = some b) ∧
    ∀ {μ C T O a w}, InvAt X μ C T O a w → (∀ n, Opd.t n ∈ iop.op.opds → look s.t n = T n) → (∀ d, δ.mks = some d → μ d = .bool false) →
      (∀ j b, objRd iop j → look s.o j = some b → μ j ≠ .bool false → same (cellsRd iop) (some b) (O j)) →
      o.wp X.P a w (fun a' w' => ∃ μ' C', InvAt X μ' C' (δ.t T) (δ.o O) a' w' ∧ (∀ j, δ.mks ≠ some j → μ' j = μ j) ∧ (∀ d, δ.mks = some d → μ' d ≠ .bool false) ∧ (∀ i, δ.on = some i → μ i ≠ .bool false)) Q := by
  obtain ⟨d, op, g, hh⟩ := iop
  simp only at hc hdd
  subst hdd
  have hpure : ∀ (p : Prop) (v : AV), pureV X.G s op = some (p, v) → ((p ∧ okR X.G s hh op) ∧ K (s.putD o.dst v)) → ∃ δ s', Deed.of ⟨o.dst, op, g, hh⟩ δ ∧ δ.s s s' ∧ K s' ∧ (∀ i, δ.on = some i → ∃ b, look s.o i = some b) ∧
    ∀ {μ C T O a w}, InvAt X μ C T O a w → (∀ n, Opd.t n ∈ op.opds → look s.t n = T n) → (∀ d, δ.mks = some d → μ d = .bool false) →
      (∀ j b, objRd ⟨o.dst, op, g, hh⟩ j → look s.o j = some b → μ j ≠ .bool false → same (cellsRd ⟨o.dst, op, g, hh⟩) (some b) (O j)) →
      o.wp X.P a w (fun a' w' => ∃ μ' C', InvAt X μ' C' (δ.t T) (δ.o O) a' w' ∧ (∀ j, δ.mks ≠ some j → μ' j = μ j) ∧ (∀ d, δ.mks = some d → μ' d ≠ .bool false) ∧ (∀ i, δ.on = some i → μ i ≠ .bool false)) Q := by
    intro p v hp ⟨⟨hq, hok⟩, hk⟩
    refine ⟨.put o.dst v, s.putD o.dst v, rfl, look_putD s o.dst v, hk, fun _ e => (by cases e), ?_⟩
    intro μ C T O a w h hT _ hO
    have fin : ∀ {u : Value}, (execOp a.eval o).run X.P w = .ok (.value u) w → TRel μ C w v u → o.wp X.P a w (fun a' w' => ∃ μ' C', InvAt X μ' C' ((Deed.put o.dst v).t T) ((Deed.put o.dst v).o O) a' w' ∧ (∀ j, (Deed.put o.dst v).mks ≠ some j → μ' j = μ j) ∧ (∀ d, (Deed.put o.dst v).mks = some d → μ' d ≠ .bool false) ∧ (∀ i, (Deed.put o.dst v).on = some i → μ i ≠ .bool false)) Q := by
      intro u hr hrel
      exact wp_value hr ⟨μ, C, h.putD hd hrel, fun _ _ => rfl, fun _ e => (by cases e), fun _ e => (by cases e)⟩
    cases hrd : op.rd with
    | false =>
      obtain ⟨u, hr, hrel⟩ := pure_sound hc (h.knowT s op.rd op.opds hT (by rw [hrd]; simp)) hp hq
      exact fin hr hrel
    | true =>
      cases hh with
      | any =>
        obtain ⟨u, hr, hrel⟩ := pure_sound hc (h.knowU s op.rd op.opds hT (fun _ y hy v i b hv hn hm hi => by
          have := hO i b (.inl hrd) hi hm
          exact (same.eq (b := some b) (b' := O i) (by
            have e : cellsRd ⟨o.dst, op, g, .any⟩ = fun _ => True := by funext k; simp [cellsRd, hrd]
            rw [e] at this; exact this)).symm)) hp hq
        exact fin hr hrel
      | ref =>
        obtain ⟨u, hr, hrel⟩ := pure_sound hc (h.knowT s op.rd op.opds hT (fun _ y hy v i b hv hn hi => by
          have := refOk_mem hok hy
          simp only [hv] at this
          rw [plain_nid this i] at hn
          cases hn)) hp hq
        exact fin hr hrel
      | «at» i off n =>
        simp only [okR] at hok
        split at hok
        · rename_i m x
          split at hok
          · rename_i i' off' hx
            obtain ⟨rfl, rfl, rfl⟩ := hok
            simp only [pureV, hx] at hp
            split at hp
            · rename_i Ty cs hi
              have hm : μ i' ≠ .bool false := by
                cases x with
                | t k =>
                  obtain ⟨u, _, hr⟩ := h.tm k _ (by rw [← hT k (by simp [IOp.opds])]; exact hx)
                  exact held_of hr (by simp [AV.nid])
                | c z =>
                  simp only [opd, Option.some.injEq] at hx; subst hx
                  exact absurd hc (compOp_const _ _)
                | g k => simp only [opd, Option.map_eq_some_iff, reduceCtorEq, and_false, exists_false] at hx
              have hsm := hO i' _ ⟨.inl hrd, rfl⟩ hi hm
              cases hoi : O i' with
              | none => rw [hoi] at hsm; exact hsm.elim
              | some b' =>
                rw [hoi] at hsm
                cases b' with
                | row => exact hsm.elim
                | iter => exact hsm.elim
                | box Ty' cs' =>
                  obtain ⟨rfl, hl, hcs⟩ := hsm
                  have hcut : cut cs' off' m = cut cs off' m := cut_same hl fun k hk => hcs k ⟨hrd, hk.1, hk.2⟩
                  have h1 : opd X.G ⟨s.t, (i', .box Ty cs') :: s.o⟩ x = some (.box i' off') := by rw [← hx]; cases x <;> rfl
                  have hp' : pureV X.G ⟨s.t, (i', .box Ty cs') :: s.o⟩ (.ld m x) = some (p, v) := by
                    simp only [pureV, h1, look, if_true, hcut]
                    exact hp
                  obtain ⟨u, hr, hrel⟩ := pure_sound (X := ⟨X.P, X.G⟩) (op := .ld m x) (s := ⟨s.t, (i', .box Ty cs') :: s.o⟩) (p := p) (v := v) hc (h.knowT ⟨s.t, (i', .box Ty cs') :: s.o⟩ true [x] (fun n hn => hT n hn) (fun _ y hy v' i b hv hn hi2 => by
                    simp only [List.mem_singleton] at hy
                    subst hy
                    have : v' = .box i' off' := by
                      have h1 : opd X.G s y = some v' := by rw [← hv]; cases y <;> rfl
                      rw [hx] at h1; injection h1 with h1; exact h1.symm
                    subst this
                    simp only [AV.nid, bne_eq_false_iff_eq] at hn
                    subst hn
                    simp only [look, if_true] at hi2
                    rw [hoi]; exact hi2)) hp' hq
                  exact fin hr hrel
            · cases hp
          · exact hok.elim
        · exact hok.elim
  simp only [E1D] at he
  cases op
  case alloc T z =>
    obtain ⟨ho, hz⟩ := inv_alloc hc
    obtain ⟨fs, i, us, hu, hinf, hzv, hok, hsz⟩ := zeroOf_inv hz
    simp only at he
    split at he
    · rename_i d hdst
      refine ⟨.new d T z, _, ⟨hdst, rfl⟩, ⟨rfl, rfl⟩, he, fun _ e => (by cases e), ?_⟩
      intro μ C T' O a w h hT hf hO
      have hfree := hf d rfl
      obtain ⟨hr, h1⟩ := okCells_rel (C := C) (w := w) hok
      have hnb := h.newBox (Ty := T) (hd d hdst) hr h1
      rw [kill_free h hfree] at hnb
      refine wp_value (u := .pointer (some ⟨w.heap.size, 0, none⟩)) (w' := w.alloc (.cells us.toArray T)) ?_ ⟨_, _, (by rw [hdst]; exact hnb), ?_, ?_, fun _ e => (by cases e)⟩
      · unfold execOp
        simp [ho, Instr.alloc, zeroValue, run_typeInfo w hinf, hzv, newVar, newRow, Value.cells]
      · intro j hj
        have : j ≠ d := fun e => hj (by rw [e]; rfl)
        simp [updμ, this]
      · intro d' e
        injection e with e1; subst e1
        simp [updμ]
    · exact he.elim
  case box T x =>
    obtain ⟨y, n, ho, hy, ht⟩ := inv_box hc
    simp only at he
    split at he
    · rename_i d cs hdst hv
      obtain ⟨hv1, hv2⟩ := valP (X := ⟨X.P, X.G⟩) hv
      refine ⟨.new d T cs, _, ⟨hdst, rfl⟩, ⟨rfl, rfl⟩, he, fun _ e => (by cases e), ?_⟩
      intro μ C T' O a w h hT hf hO
      have hfree := hf d rfl
      obtain ⟨us, hu, hr, h1⟩ := ((h.knowT s false [x] hT (by simp)).at (by simp) hy hv1).agg_inv
      have hnb := h.newBox (Ty := T) (hd d hdst) hr h1
      rw [kill_free h hfree] at hnb
      refine wp_value (u := .pointer (some ⟨w.heap.size, 0, none⟩)) (w' := w.alloc (.cells us.toArray T)) ?_ ⟨_, _, (by rw [hdst]; exact hnb), ?_, ?_, fun _ e => (by cases e)⟩
      · unfold execOp
        simp [ho, hu, Instr.box, newVar, newRow, Value.cells]
      · intro j hj
        have : j ≠ d := fun e => hj (by rw [e]; rfl)
        simp [updμ, this]
      · intro d' e
        injection e with e1; subst e1
        simp [updμ]
    · exact he.elim
  case st n x y =>
    obtain ⟨T, x', y', m, ho, hx, hy, ht, hm⟩ := inv_st hc
    obtain ⟨info, hinf, hsz, h0⟩ := aggOf_size ht
    rw [hm] at hsz
    simp only at he
    split at he
    · rename_i i off v hxv hyv
      split at he
      · rename_i Ty cs hob
        obtain ⟨⟨hdn, hlen, hle, hw⟩, hk⟩ := he
        obtain ⟨hv1, hv2⟩ := valP (X := ⟨X.P, X.G⟩) hyv
        refine ⟨.st i off (avCells v), s.upd i (.box Ty (splice cs off (avCells v))), ⟨hdn, rfl, by rw [hlen]; exact hw⟩, ⟨rfl, look_upd_st hob (by omega)⟩, hk, ?_, ?_⟩
        · intro i' e
          injection e with e1; subst e1
          exact ⟨_, hob⟩
        · intro μ C T' O a w h hT hf hO
          have hknx := h.knowT s false [x] (fun n hn => hT n (by simp only [List.mem_singleton] at hn; rw [hn]; simp [IOp.opds])) (by simp)
          have hkny := h.knowT s false [y] (fun n hn => hT n (by simp only [List.mem_singleton] at hn; rw [hn]; simp [IOp.opds])) (by simp)
          have hrel := (hkny.at (by simp) hy hv1).rel (AV.vok_plain hv2)
          obtain ⟨us, hu, hr, h1⟩ := hrel.vok hv2
          have hxr := hknx.at (by simp) hx hxv
          have hheld := held_of (i := i) hxr (by simp [AV.nid])
          have hobj : objRd ⟨o.dst, .st n x y, g, hh⟩ i := by
            cases hh with
            | any => exact .inr (.inl rfl)
            | ref => exact hw.elim
            | «at» => exact ⟨.inr (.inl rfl), hw.1.symm⟩
          have hsm := hO i _ hobj hob hheld
          cases hoi : O i with
          | none => rw [hoi] at hsm; exact hsm.elim
          | some b' =>
            rw [hoi] at hsm
            cases b' with
            | row => exact hsm.elim
            | iter => exact hsm.elim
            | box Ty' cs' =>
              obtain ⟨rfl, hl, hcs⟩ := hsm
              obtain ⟨w', hrun, hinv⟩ := h.storeBox hoi hxr hr h1 (by omega) hinf (by omega) hu
              refine wp_unit (w' := w') ?_ hdn ⟨μ, C, ?_, fun _ _ => rfl, fun _ e => (by cases e), fun i' e => ?_⟩
              · unfold execOp
                simp [ho, hrun]
              · have e : (Deed.st i off (avCells v)).o O = setF O i (some (.box Ty (splice cs' off (avCells v)))) := by
                  funext j
                  simp only [Deed.o, setF]
                  by_cases ej : i = j
                  · subst ej; simp [hoi, overO, over_of (cs := cs') (vs := avCells v) (off := off) (by omega)]
                  · simp [ej, Ne.symm ej]
                rw [e]
                exact hinv
              · injection e with e1; rw [← e1]; exact hheld
      · exact he.elim
    · rename_i i j v hxv hyv
      split at he
      · rename_i E sz xs hob
        obtain ⟨⟨hdn, rfl, rfl, hj, hone, hany⟩, hk⟩ := he
        obtain ⟨hv1, hv2⟩ := valP (X := ⟨X.P, X.G⟩) hyv
        refine ⟨.els i j v, s.upd i (.row E 1 (xs.set j v)), ⟨hdn, rfl, hany⟩, ⟨rfl, ?_⟩, hk, ?_, ?_⟩
        · funext k
          simp only [St.upd, look, Deed.o]
          by_cases e : i = k
          · subst e; simp [hob, setR]
          · simp [e, Ne.symm e]
        · intro i' e
          injection e with e1; subst e1
          exact ⟨_, hob⟩
        · intro μ C T' O a w h hT hf hO
          have hknx := h.knowT s false [x] (fun n hn => hT n (by simp only [List.mem_singleton] at hn; rw [hn]; simp [IOp.opds])) (by simp)
          have hkny := h.knowT s false [y] (fun n hn => hT n (by simp only [List.mem_singleton] at hn; rw [hn]; simp [IOp.opds])) (by simp)
          have hrel := (hkny.at (by simp) hy hv1).rel (AV.vok_plain hv2)
          have hxr := hknx.at (by simp) hx hxv
          have hheld := held_of (i := i) hxr (by simp [AV.nid])
          have hobj : objRd ⟨o.dst, .st 1 x y, g, hh⟩ i := by
            cases hh with
            | any => exact .inr (.inl rfl)
            | ref => cases hany
            | «at» => cases hany
          have hsm := hO i _ hobj hob hheld
          have hoi : O i = some (.row E 1 xs) := by
            cases hoi : O i with
            | none => rw [hoi] at hsm; exact hsm.elim
            | some b' =>
              rw [hoi] at hsm
              cases b' with
              | box => exact hsm.elim
              | iter => exact hsm.elim
              | row =>
                obtain ⟨rfl, h2, rfl⟩ := hsm
                rw [← h2]
          obtain ⟨w', hrun, hinv⟩ := h.storeElt hoi hxr hrel hone hj hinf hsz
          refine wp_unit (w' := w') ?_ hdn ⟨μ, C, ?_, fun _ _ => rfl, fun _ e => (by cases e), fun i' e => ?_⟩
          · unfold execOp
            simp [ho, hrun]
          · have e : (Deed.els i j v).o O = setF O i (some (.row E 1 (xs.set j v))) := by
              funext k
              simp only [Deed.o, setF]
              by_cases ek : i = k
              · subst ek; simp [hoi, setR]
              · simp [ek, Ne.symm ek]
            rw [e]
            exact hinv
          · injection e with e1; rw [← e1]; exact hheld
      · exact he.elim
    · exact he.elim
  case lit q E sz ps =>
    obtain ⟨T, qs, by_, ho, hel, hlit, hn, hn0⟩ := inv_lit hc
    simp only at he
    split at he
    · rename_i d vs hdst hvs
      obtain ⟨rfl, hk⟩ := he
      refine ⟨.put (some d) (.sl sz vs), s.put d (.sl sz vs), hdst.symm, ⟨rfl, rfl⟩, hk, fun _ e => (by cases e), ?_⟩
      intro μ C T' O a w h hT _ hO
      obtain ⟨us, hus, hr, hu⟩ := lit_inv (Y := ⟨X.P, X.G⟩) qs.toList 0 sz ps vs hlit (h.knowT s false ps hT (by simp)) hvs
      have hlu : us.length = ps.length := by
        have h1 : vs.length = us.length := hr.1
        have := valsV_len ps vs hvs
        omega
      have hrun : (execOp a.eval o).run X.P w = .ok (.value (.slice (some ⟨w.heap.size, 0, none⟩) us.length us.length)) (w.alloc (.cells (cellsOf us).toArray E)) := by
        unfold execOp
        have := run_lit (w := w) hel (parts := qs.map fun p => (p.1, a.eval p.2)) (us := us) (by rw [Array.toList_map]; exact hus) (fun u h => (hu u h).1) (by rw [hlu]; exact hn) (by rw [hlu]; exact hn0)
        rw [hlu] at this
        simp only [ho, Sem.run_bind, this, Result.andThen_ok, Sem.run_pure, hlu]
      have hb := alloc_heap w (.cells (cellsOf us).toArray E)
      refine wp_value hrun ⟨μ, fun b o => C b o ∨ b = w.heap.size, ?_, fun _ _ => rfl, fun _ e => (by cases e), fun _ e => (by cases e)⟩
      rw [hdst]
      exact (h.grow hb (C' := fun b o => C b o ∨ b = w.heap.size) (fun _ _ h => .inl h) (fun b o hc => by
          rcases hc with hc | hc
          · exact ⟨Nat.lt_of_lt_of_le (h.c_lt b o hc) hb.size, .inl hc⟩
          · exact ⟨by simp [hc], .inr (by omega)⟩)).put (hd d hdst) (.of_rel (lit_rel h.c_lt hr hu))
    · exact he.elim
  case mk E by_ z n c =>
    obtain ⟨T, n', c', i, zv, ho, hel, hn, hcc, hinf, hzv, hok, h1⟩ := inv_mk hc
    obtain ⟨i', z', hut, hinf', hz', hzs, hsz, hby, _⟩ := elemInfo_inv hel
    rw [hinf] at hinf'
    injection hinf' with hinf'
    subst hinf'
    simp only at he
    split at he
    · rename_i d nn cc hdst hnv hcv
      obtain ⟨⟨h0, hle, hb, hm⟩, hk⟩ := he
      refine ⟨.newr d E 1 (List.replicate nn.toNat z), _, ⟨hdst, rfl⟩, ⟨rfl, rfl⟩, hk, fun _ e => (by cases e), ?_⟩
      intro μ C T' O a w h hT hf hO
      have hfree := hf d rfl
      have hkn := h.knowT s false [n, c] (fun k hk => hT k (by simpa [IOp.opds] using hk)) (by simp)
      have hn1 := (hkn.at (by simp) hn hnv).int_inv
      have hc1 := (hkn.at (by simp) hcc hcv).int_inv
      have hrun := run_make (P := X.P) w T E i zv hut hinf hzv .i64 .i64 nn cc h0 hle (by rw [hby, Int.mul_comm]; exact hb) (by omega)
      rw [hsz, Nat.mul_one] at hrun
      obtain ⟨hzr, _⟩ := okCell_rel (C := C) (w := w) hok
      have hzc : zv.cells = #[zv] := by revert h1; cases zv <;> simp [Value.oneCell', Value.cells]
      have hmc : madeCells zv.cells cc.toNat = (List.replicate cc.toNat zv).toArray := by
        apply Array.ext'
        apply List.ext_getElem
        · simp [madeCells]
        · intro k h2 h3
          simp [madeCells, hzc, Nat.mod_one]
      rw [hmc] at hrun
      have hone : ∀ k, cellsOf (List.replicate k zv) = List.replicate k zv := fun k => cellsOf_one fun u hu => by rw [(List.mem_replicate.1 hu).2]; exact hzc
      have hnew := h.newRow (d := d) (hd d hdst) (E := E) (sz := 1) (cap := cc.toNat) (cs := List.replicate nn.toNat z) (us := List.replicate nn.toNat zv) (cur := (List.replicate cc.toNat zv).toArray)
        ⟨by simp, fun k x u hx hu => by
          obtain ⟨_, hx⟩ := List.getElem?_eq_some_iff.1 hx
          obtain ⟨_, hu⟩ := List.getElem?_eq_some_iff.1 hu
          simp at hx hu
          subst hx hu
          exact hzr⟩ (fun u hu => by rw [(List.mem_replicate.1 hu).2, hzc]; simp [h1]) (by simp; omega) (by simp only [maxLen]; omega) (by simp) (by simp only [hone, List.length_replicate, Nat.mul_one, List.toList_toArray, List.take_replicate]; congr 1; omega) (by simp [hone])
      rw [kill_free h hfree] at hnew
      simp only [List.length_replicate] at hnew
      refine wp_value (u := .slice (some ⟨w.heap.size, 0, none⟩) nn.toNat cc.toNat) (w' := w.alloc (.cells (List.replicate cc.toNat zv).toArray E)) ?_ ⟨_, _, (by rw [hdst]; exact hnew), ?_, ?_, fun _ e => (by cases e)⟩
      · unfold execOp
        simp [ho, hn1, hc1, hrun]
      · intro j hj
        have : j ≠ d := fun e => hj (by rw [e]; rfl)
        simp [updμ, this]
      · intro d' e
        injection e with e1; subst e1
        simp [updμ]
    · exact he.elim
  case app E sz by_ x y =>
    obtain ⟨T, x', y', ho, hel, hx, hy⟩ := inv_app hc
    simp only at he
    split at he
    · rename_i d i sz' ys hdst hxv hyv
      split at he
      · rename_i E' sz'' xs hob
        obtain ⟨⟨hip, hany, rfl, rfl, rfl, hb1, hb2⟩, hk⟩ := he
        obtain ⟨hv1, _⟩ := valP (X := ⟨X.P, X.G⟩) hyv
        refine ⟨.fapp d i _ (xs ++ ys), _, ⟨hdst, rfl, hany⟩, ⟨rfl, ?_⟩, hk, ?_, ?_⟩
        · funext j
          simp only [Deed.o, setF]
          split
          · rename_i e; subst e
            cases hl : look (dropO i s.o) i with
            | none => rfl
            | some b => exact absurd rfl (look_dropO hl).2
          · rename_i e
            exact look_dropO_ne e
        · intro j e
          injection e with e1; subst e1
          exact ⟨_, hob⟩
        · intro μ C T' O a w h hT hf hO
          have hkn := h.knowT s false [x, y] (fun k hk => hT k (by simpa [IOp.opds] using hk)) (by simp)
          have hxr := hkn.at (by simp) hx hxv
          have hheld := held_of (i := i) hxr (by simp [AV.nid])
          have hobj : objRd ⟨o.dst, .app E' sz' by_ x y, g, hh⟩ i := by
            cases hh with
            | any => exact .inr (.inr rfl)
            | ref => cases hany
            | «at» => cases hany
          have hsm := hO i _ hobj hob hheld
          have hoi : O i = some (.row E' sz' xs) := by
            cases hoi : O i with
            | none => rw [hoi] at hsm; exact hsm.elim
            | some b' =>
              rw [hoi] at hsm
              cases b' with
              | box => exact hsm.elim
              | iter => exact hsm.elim
              | row =>
                obtain ⟨rfl, rfl, rfl⟩ := hsm
                rfl
          obtain ⟨u, w', hr, hinv⟩ := h.append (hd d hdst) hoi hel (hkn.at (by simp) hy hv1) hb1 hb2 hip o.type
          have h1 : a.eval x' = μ i := hxr.1
          rw [← h1] at hr
          refine wp_value (u := u) (w' := w') ?_ ⟨μ, fun b o => C b o ∨ mblk u = some b, ?_, fun _ _ => rfl, fun _ e => (by cases e), fun j e => ?_⟩
          · unfold execOp
            simp only [ho, resolve, invoke, builtin, Sem.run_bind, Sem.run_pure, Result.andThen_ok, List.map_toArray, List.map_cons, List.map_nil, hr]
          · rw [hdst]
            exact h.fapp (hd d hdst) hinv hip
          · injection e with e1; rw [← e1]; exact hheld
      · exact he.elim
    · exact he.elim
  case call f xs =>
    obtain ⟨c, ho, hcal, hf, harg⟩ := inv_call hc
    simp only at he
    split at he
    · rename_i vs hvs
      obtain ⟨r, hp, hcon, hk⟩ := he
      refine ⟨.put o.dst r, s.putD o.dst r, rfl, look_putD s o.dst r, hk, fun _ e => (by cases e), ?_⟩
      intro μ C T O a w h hT _ hO
      have hrl := arg_sound (Y := ⟨X.P, X.G⟩) _ _ xs vs harg (h.knowT s false _ hT (by simp)) hvs
      refine Oper.wp_mono (fun a' w' h' => ?_) (h.call ho hcal (by rfl) hf hcon hrl hp hd)
      obtain ⟨C', h'⟩ := h'
      exact ⟨μ, C', h', fun _ _ => rfl, fun _ e => (by cases e), fun _ e => (by cases e)⟩
    · exact he.elim
  case dcall x xs =>
    obtain ⟨c, x', ho, hcal, hx, harg⟩ := inv_dcall hc
    simp only at he
    split at he
    · rename_i f vs hxv hvs
      obtain ⟨hf, r, hp, hcon, hk⟩ := he
      refine ⟨.put o.dst r, s.putD o.dst r, rfl, look_putD s o.dst r, hk, fun _ e => (by cases e), ?_⟩
      intro μ C T O a w h hT _ hO
      have hrl := arg_sound (Y := ⟨X.P, X.G⟩) _ _ xs vs harg (h.knowT s false _ (fun n hn => hT n (by simp only [IOp.opds]; exact List.mem_cons_of_mem _ hn)) (by simp)) hvs
      refine Oper.wp_mono (fun a' w' h' => ?_) (h.call ho hcal ((h.knowT s false [x] (fun n hn => hT n (by simp only [List.mem_singleton] at hn; rw [hn]; simp [IOp.opds])) (by simp)).at (by simp) hx hxv).fn_inv hf hcon hrl hp hd)
      obtain ⟨C', h'⟩ := h'
      exact ⟨μ, C', h', fun _ _ => rfl, fun _ e => (by cases e), fun _ e => (by cases e)⟩
    · exact he.elim
  all_goals
    simp only at he
    split at he
    · rename_i p v hp
      exact hpure p v hp he
    · exact he.elim
end
end Go.Proofs.YtgehlcgjchfibaaGreatDoor.F
namespace Go.Proofs.YtgehlcgjchfibaaGreatDoor.F
open Go Go.RowKit
def layT : List Deed → Nat → (Nat → Bool) → (Nat → Option AV) → Nat → Option AV
  | [], _, _, T => T
  | δ :: ds, k, L, T => layT ds (k + 1) L (if L k then δ.t T else T)
def layO : List Deed → Nat → (Nat → Bool) → (Nat → Option Ob) → Nat → Option Ob
  | [], _, _, T => T
  | δ :: ds, k, L, T => layO ds (k + 1) L (if L k then δ.o T else T)
theorem t_w {δ : Deed} {t : Nat} (h : δ.w = some t) : ∃ v, ∀ T, δ.t T t = some v := by
  cases δ with
  | put d v => simp only [Deed.w] at h; subst h; exact ⟨v, fun T => by simp [Deed.t, putF, setF]⟩
  | new d Ty cs => simp only [Deed.w, Option.some.injEq] at h; subst h; exact ⟨.box d 0, fun T => by simp [Deed.t, setF]⟩
  | st i off vs => simp [Deed.w] at h
  | newr d E sz xs => simp only [Deed.w, Option.some.injEq] at h; subst h; exact ⟨.own d, fun T => by simp [Deed.t, setF]⟩
  | fapp d i sz zs => simp only [Deed.w, Option.some.injEq] at h; subst h; exact ⟨.sl sz zs, fun T => by simp [Deed.t, setF]⟩
  | els i j v => simp [Deed.w] at h
theorem t_nw {δ : Deed} {t : Nat} (h : δ.w ≠ some t) (T : Nat → Option AV) : δ.t T t = T t := by
  cases δ with
  | put d v => cases d with
    | none => rfl
    | some d => simp only [Deed.w, ne_eq, Option.some.injEq] at h; simp [Deed.t, putF, setF, h]
  | new d Ty cs => simp only [Deed.w, ne_eq, Option.some.injEq] at h; simp [Deed.t, setF, h]
  | st i off vs => rfl
  | newr d E sz xs => simp only [Deed.w, ne_eq, Option.some.injEq] at h; simp [Deed.t, setF, h]
  | fapp d i sz zs => simp only [Deed.w, ne_eq, Option.some.injEq] at h; simp [Deed.t, setF, h]
  | els i j v => rfl
theorem t_cong {δ : Deed} {t : Nat} {T T' : Nat → Option AV} (h : T t = T' t) : δ.t T t = δ.t T' t := by
  by_cases hw : δ.w = some t
  · obtain ⟨v, hv⟩ := t_w hw; rw [hv, hv]
  · rw [t_nw hw, t_nw hw, h]
theorem layT_same {t : Nat} {L L' : Nat → Bool} : ∀ (ds : List Deed) (b : Nat) (T T' : Nat → Option AV), T t = T' t → (∀ k δ, ds[k]? = some δ → δ.w = some t → L (b + k) = L' (b + k)) → layT ds b L T t = layT ds b L' T' t
  | [], b, T, T', h, _ => h
  | δ :: ds, b, T, T', h, hL => by
    simp only [layT]
    refine layT_same ds (b + 1) _ _ ?_ fun k δ' hk hw => by have := hL (k + 1) δ' (by simpa using hk) hw; rwa [show b + 1 + k = b + (k + 1) by omega]
    by_cases hw : δ.w = some t
    · have := hL 0 δ (by simp) hw
      simp only [Nat.add_zero] at this
      rw [this]
      split
      · exact t_cong h
      · exact h
    · split <;> split <;> simp [t_nw hw, h]
theorem layT_none {L : Nat → Bool} : ∀ (ds : List Deed) (b : Nat) (T : Nat → Option AV), (∀ k, b ≤ k → k < b + ds.length → L k = false) → layT ds b L T = T
  | [], b, T, h => rfl
  | δ :: ds, b, T, h => by
    simp only [layT]
    rw [h b (Nat.le_refl _) (by simp)]
    exact layT_none ds (b + 1) T fun k h1 h2 => h k (by omega) (by simp only [List.length_cons]; omega)
theorem layO_none {L : Nat → Bool} : ∀ (ds : List Deed) (b : Nat) (T : Nat → Option Ob), (∀ k, b ≤ k → k < b + ds.length → L k = false) → layO ds b L T = T
  | [], b, T, h => rfl
  | δ :: ds, b, T, h => by
    simp only [layO]
    rw [h b (Nat.le_refl _) (by simp)]
    exact layO_none ds (b + 1) T fun k h1 h2 => h k (by omega) (by simp only [List.length_cons]; omega)
theorem layT_val {t : Nat} {L : Nat → Bool} {δ : Deed} {v : AV} (hv : ∀ T, δ.t T t = some v) : ∀ (ds : List Deed) (b i : Nat) (T : Nat → Option AV), ds[i]? = some δ → L (b + i) = true → (∀ k δ', i < k → ds[k]? = some δ' → δ'.w ≠ some t) → layT ds b L T t = some v
  | [], b, i, T, h, _, _ => by simp at h
  | e :: ds, b, 0, T, h, hL, hn => by
    simp only [List.length_cons, List.getElem?_cons_zero, Option.some.injEq] at h; subst h
    simp only [layT, Nat.add_zero] at hL ⊢
    rw [if_pos hL, layT_same (L' := fun _ => false) ds (b + 1) (e.t T) (e.t T) rfl (fun k δ' hk hw => absurd hw (hn (k + 1) δ' (by omega) (by simpa using hk))), layT_none _ _ _ (fun _ _ _ => rfl), hv]
  | e :: ds, b, i + 1, T, h, hL, hn => by
    simp only [layT]
    exact layT_val hv ds (b + 1) i _ (by simpa using h) (by rwa [show b + 1 + i = b + (i + 1) by omega]) fun k δ' hk hd => hn (k + 1) δ' (by omega) (by simpa using hd)
def insL (L : Nat → Bool) (i : Nat) : Nat → Bool := fun k => k == i || L k
theorem layT_ins {L : Nat → Bool} {ds : List Deed} {i : Nat} {δ : Deed} (hi : ds[i]? = some δ) (T : Nat → Option AV) (hu : ∀ t k δ', k ≠ i → ds[k]? = some δ' → δ.w = some t → δ'.w ≠ some t) : layT ds 0 (insL L i) T = δ.t (layT ds 0 L T) := by
  funext t
  by_cases hw : δ.w = some t
  · obtain ⟨v, hv⟩ := t_w hw
    rw [hv, layT_val hv ds 0 i T hi (by simp [insL]) fun k δ' hk hd => hu t k δ' (by omega) hd hw]
  · rw [t_nw hw]
    refine layT_same ds 0 T T rfl fun k δ' hk hw' => ?_
    have : k ≠ i := fun e => hw (by subst e; rw [hi] at hk; injection hk with hk; rw [hk]; exact hw')
    simp [insL, this]
def touches (c : Nat → Prop) (j : Nat) : Deed → Prop
  | .put _ _ => False
  | .new d _ _ => d = j
  | .st i off vs => i = j ∧ ∃ m, off ≤ m ∧ m < off + vs.length ∧ c m
  | .newr d _ _ _ => d = j
  | .fapp _ i _ _ => i = j
  | .els i _ _ => i = j
theorem same_setR {c : Nat → Prop} {b b' : Option Ob} (k : Nat) (v : AV) (h : same c b b') : same c (setR k v b) (setR k v b') := by
  unfold same at h
  split at h
  · exact h
  · obtain ⟨rfl, rfl, rfl⟩ := h
    exact ⟨rfl, rfl, rfl⟩
  · exact h
  · exact h
  · exact h.elim
theorem over_len (cs : List AV) (off : Nat) (vs : List AV) : (over cs off vs).length = cs.length := by
  unfold over splice
  split
  · simp only [List.length_append, List.length_take, List.length_drop]; omega
  · rfl
theorem over_get (cs : List AV) (off : Nat) (vs : List AV) (k : Nat) : (over cs off vs)[k]? = if off + vs.length ≤ cs.length ∧ off ≤ k ∧ k < off + vs.length then vs[k - off]? else cs[k]? := by
  unfold over splice
  split
  · rename_i h
    by_cases h1 : off ≤ k ∧ k < off + vs.length
    · rw [if_pos ⟨h, h1⟩, List.append_assoc, List.getElem?_append_right (by simp; omega), List.getElem?_append_left (by simp; omega)]
      congr 1
      simp; omega
    · rw [if_neg (fun h2 => h1 h2.2)]
      by_cases h2 : k < off
      · rw [List.append_assoc, List.getElem?_append_left (by simp; omega), List.getElem?_take, if_pos h2]
      · rw [List.getElem?_append_right (by simp; omega), List.getElem?_drop]
        congr 1
        simp; omega
  · rename_i h
    rw [if_neg (fun h2 => h h2.1)]
theorem same_over {c : Nat → Prop} {b b' : Option Ob} (off : Nat) (vs : List AV) (h : same c b b') : same c (overO off vs b) (overO off vs b') := by
  unfold same at h
  split at h
  · obtain ⟨rfl, hl, hc⟩ := h
    refine ⟨rfl, by simp [over_len, hl], fun k hk => ?_⟩
    rw [over_get, over_get, hl, hc k hk]
  · obtain ⟨rfl, rfl, rfl⟩ := h
    exact ⟨rfl, rfl, rfl⟩
  · obtain ⟨rfl, rfl⟩ := h
    exact ⟨rfl, rfl⟩
  · exact h
  · exact h.elim
theorem same_over1 {c : Nat → Prop} {b b' : Option Ob} {off : Nat} {vs : List AV} (hn : ¬ ∃ m, off ≤ m ∧ m < off + vs.length ∧ c m) (h : same c b b') : same c (overO off vs b) b' := by
  unfold same at h
  split at h
  · obtain ⟨rfl, hl, hc⟩ := h
    refine ⟨rfl, by simp [over_len, hl], fun k hk => ?_⟩
    rw [over_get, if_neg (fun h2 => hn ⟨k, h2.2.1, h2.2.2, hk⟩), hc k hk]
  · exact h
  · exact h
  · exact h
  · exact h.elim
theorem same.symm {c : Nat → Prop} {b b' : Option Ob} (h : same c b b') : same c b' b := by
  unfold same at h
  split at h
  · obtain ⟨rfl, hl, hc⟩ := h
    exact ⟨rfl, hl.symm, fun k hk => (hc k hk).symm⟩
  · obtain ⟨rfl, rfl, rfl⟩ := h
    exact ⟨rfl, rfl, rfl⟩
  · obtain ⟨rfl, rfl⟩ := h
    exact ⟨rfl, rfl⟩
  · exact h
  · exact h.elim
theorem same_o {c : Nat → Prop} {j : Nat} {O O' : Nat → Option Ob} (δ : Deed) (h : same c (O j) (O' j)) : same c (δ.o O j) (δ.o O' j) := by
  cases δ with
  | put d v => exact h
  | new d Ty cs => simp only [Deed.o, setF]; split; exact same.rfl' _ _; exact h
  | st i off vs =>
    simp only [Deed.o]
    split
    · rename_i e; subst e; exact same_over _ _ h
    · exact h
  | newr d E sz xs => simp only [Deed.o, setF]; split; exact same.rfl' _ _; exact h
  | fapp d i sz zs => simp only [Deed.o, setF]; split; exact same.rfl' _ _; exact h
  | els i k v =>
    simp only [Deed.o]
    split
    · rename_i e; subst e; exact same_setR _ _ h
    · exact h
theorem same_o1 {c : Nat → Prop} {j : Nat} {O O' : Nat → Option Ob} {δ : Deed} (hn : ¬ touches c j δ) (h : same c (O j) (O' j)) : same c (δ.o O j) (O' j) := by
  cases δ with
  | put d v => exact h
  | new d Ty cs => simp only [touches] at hn; simp only [Deed.o, setF, if_neg hn]; exact h
  | st i off vs =>
    simp only [Deed.o]
    split
    · rename_i e; subst e; exact same_over1 (fun hm => hn ⟨rfl, hm⟩) h
    · exact h
  | newr d E sz xs => simp only [touches] at hn; simp only [Deed.o, setF, if_neg hn]; exact h
  | fapp d i sz zs => simp only [touches] at hn; simp only [Deed.o, setF, if_neg hn]; exact h
  | els i k v => simp only [touches] at hn; simp only [Deed.o]; rw [if_neg (fun e => hn e.symm)]; exact h
theorem layO_same {c : Nat → Prop} {j : Nat} {L L' : Nat → Bool} : ∀ (ds : List Deed) (b : Nat) (O O' : Nat → Option Ob), same c (O j) (O' j) → (∀ k δ, ds[k]? = some δ → touches c j δ → L (b + k) = L' (b + k)) → same c (layO ds b L O j) (layO ds b L' O' j)
  | [], b, O, O', h, _ => h
  | δ :: ds, b, O, O', h, hL => by
    simp only [layO]
    refine layO_same ds (b + 1) _ _ ?_ fun k δ' hk hw => by have := hL (k + 1) δ' (by simpa using hk) hw; rwa [show b + 1 + k = b + (k + 1) by omega]
    by_cases hw : touches c j δ
    · have := hL 0 δ (by simp) hw
      simp only [Nat.add_zero] at this
      rw [this]
      split
      · exact same_o δ h
      · exact h
    · split <;> split
      · exact same_o δ h
      · exact same_o1 hw h
      · exact (same_o1 hw h.symm).symm
      · exact h
def hits (j : Nat) : Deed → Prop
  | .put _ _ => False
  | .new d _ _ => d = j
  | .st i _ _ => i = j
  | .newr d _ _ _ => d = j
  | .fapp _ i _ _ => i = j
  | .els i _ _ => i = j
theorem o_nh {j : Nat} {δ : Deed} (h : ¬ hits j δ) (O : Nat → Option Ob) : δ.o O j = O j := by
  cases δ with
  | put d v => rfl
  | new d Ty cs => simp only [hits] at h; simp [Deed.o, setF, h]
  | st i off vs => simp only [hits] at h; simp only [Deed.o]; rw [if_neg (fun e => h e.symm)]
  | newr d E sz xs => simp only [hits] at h; simp [Deed.o, setF, h]
  | fapp d i sz zs => simp only [hits] at h; simp [Deed.o, setF, h]
  | els i k v => simp only [hits] at h; simp only [Deed.o]; rw [if_neg (fun e => h e.symm)]
theorem o_cong {j : Nat} {δ : Deed} {O O' : Nat → Option Ob} (h : O j = O' j) : δ.o O j = δ.o O' j := by
  cases δ with
  | put d v => exact h
  | new d Ty cs => simp only [Deed.o, setF]; split; rfl; exact h
  | st i off vs => simp only [Deed.o]; split; rename_i e; subst e; rw [h]; exact h
  | newr d E sz xs => simp only [Deed.o, setF]; split; rfl; exact h
  | fapp d i sz zs => simp only [Deed.o, setF]; split; rfl; exact h
  | els i k v => simp only [Deed.o]; split; rename_i e; subst e; rw [h]; exact h
theorem layO_rest {j : Nat} {L : Nat → Bool} : ∀ (ds : List Deed) (b : Nat) (O : Nat → Option Ob), (∀ k δ, ds[k]? = some δ → L (b + k) = true → ¬ hits j δ) → layO ds b L O j = O j
  | [], b, O, _ => rfl
  | δ :: ds, b, O, h => by
    simp only [layO]
    rw [layO_rest ds (b + 1) _ fun k δ' hk hL => h (k + 1) δ' (by simpa using hk) (by rwa [show b + (k + 1) = b + 1 + k by omega])]
    split
    · rename_i hl
      exact o_nh (h 0 δ (by simp) hl) O
    · rfl
theorem layO_at {j : Nat} {L : Nat → Bool} {δ : Deed} : ∀ (ds : List Deed) (b i : Nat) (O : Nat → Option Ob), ds[i]? = some δ → L (b + i) = false → (∀ k δ', i < k → ds[k]? = some δ' → L (b + k) = true → ¬ hits j δ') →
    layO ds b (insL L (b + i)) O j = δ.o (layO ds b L O) j
  | [], b, i, O, h, _, _ => by simp at h
  | e :: ds, b, 0, O, h, hL, hn => by
    simp only [List.getElem?_cons_zero, Option.some.injEq] at h; subst h
    have hr : ∀ (M : Nat → Bool), (∀ k, b < k → M k = L k) → ∀ O, layO ds (b + 1) M O j = O j := fun M hM O => layO_rest ds (b + 1) O fun k δ' hk hm => hn (k + 1) δ' (by omega) (by simpa using hk) (by rw [hM _ (by omega)] at hm; rwa [show b + (k + 1) = b + 1 + k by omega])
    simp only [layO, Nat.add_zero] at hL ⊢
    rw [hr (insL L b) (fun k hk => by simp [insL, show k ≠ b by omega]), if_pos (by simp [insL])]
    have h2 : ∀ F : Nat → Option Ob, F j = O j → e.o O j = e.o F j := fun F hF => o_cong hF.symm
    refine h2 _ ?_
    rw [hL]
    exact hr L (fun _ _ => rfl) O
  | e :: ds, b, i + 1, O, h, hL, hn => by
    simp only [layO]
    rw [show b + (i + 1) = b + 1 + i by omega] at hL ⊢
    rw [show insL L (b + 1 + i) b = L b by simp [insL, show b ≠ b + 1 + i by omega]]
    exact layO_at ds (b + 1) i _ (by simpa using h) hL fun k δ' hk hd hl => hn (k + 1) δ' (by omega) (by simpa using hd) (by rwa [show b + (k + 1) = b + 1 + k by omega])
theorem layO_ins {L : Nat → Bool} {ds : List Deed} {i : Nat} {δ : Deed} (hi : ds[i]? = some δ) (hL : L i = false) (O : Nat → Option Ob) (hu : ∀ j k δ', hits j δ → i < k → ds[k]? = some δ' → L k = true → ¬ hits j δ') : layO ds 0 (insL L i) O = δ.o (layO ds 0 L O) := by
  funext j
  by_cases hj : hits j δ
  · have := layO_at (L := L) (j := j) ds 0 i O hi (by simpa using hL) (fun k δ' hk hd hl => hu j k δ' hj hk hd (by simpa using hl))
    simpa using this
  · rw [o_nh hj]
    refine (same.eq ((layO_same (c := fun _ => True) ds 0 O O (same.rfl' _ _) fun k δ' hk ht => ?_))).symm ▸ rfl
    have : k ≠ i := fun e => hj (by
      subst e; rw [hi] at hk; injection hk with hk; subst hk
      cases δ with
      | put => exact ht.elim
      | new => exact ht
      | st => exact ht.1
      | newr => exact ht
      | fapp => exact ht
      | els => exact ht)
    simp [insL, this]
end Go.Proofs.YtgehlcgjchfibaaGreatDoor.F
namespace Go.Proofs.YtgehlcgjchfibaaGreatDoor.F
open Go Go.RowKit
def ordB (ops : Array Oper) : Nat → Nat → Nat → Bool
  | 0, _, _ => false
  | n + 1, j, i => match ops[j]? with
    | some o => o.after.any fun e => Region.binds .any e && (e.on == i || ordB ops n e.on i)
    | none => false
def opdTs : List Opd → List Nat
  | [] => []
  | .t n :: xs => n :: opdTs xs
  | _ :: xs => opdTs xs
def IOper.looks (o : IOper) : List Nat := (match o.g with | some (t, _) => [t] | none => []) ++ opdTs o.op.opds
def IOper.reads (o : IOper) : Option Nat → Bool
  | some d => o.looks.contains d
  | none => false
def hintFree : Hint → Hint → Bool
  | _, .ref => true
  | .at a off n, .at b off' n' => a != b || decide (off + n ≤ off') || decide (off' + n' ≤ off)
  | _, _ => false
def IOper.eff (o : IOper) : Bool := o.op.isSt || o.op.isApp
def pairOk (ops : Array Oper) (i j : Nat) (x y : IOper) : Bool :=
  (x.d.isNone || x.d != y.d) &&
  (ordB ops 3 j i || (!y.reads x.d && !x.reads y.d && !(x.eff && y.eff) && (!(x.eff && y.op.rd) || hintFree x.h y.h) && (!(x.op.rd && y.eff) || hintFree y.h x.h)))
def rowOk (ops : Array Oper) (i : Nat) (x : IOper) : Nat → List IOper → Bool
  | _, [] => true
  | j, y :: ys => pairOk ops i j x y && rowOk ops i x (j + 1) ys
def pairsOk (ops : Array Oper) : Nat → List IOper → Bool
  | _, [] => true
  | i, x :: xs => rowOk ops i x (i + 1) xs && pairsOk ops (i + 1) xs
def backOk (k : Nat) : List Oper → Bool
  | [] => true
  | o :: os => (o.after.all fun e => !Region.binds .any e || decide (e.on < k)) && backOk (k + 1) os
def orderOk (ops : Array Oper) (is : List IOper) : Bool := pairsOk ops 0 is && backOk 0 ops.toList
theorem rowOk_at {ops : Array Oper} {i : Nat} {x : IOper} : ∀ {ys : List IOper} {j k : Nat} {y : IOper}, rowOk ops i x j ys = true → ys[k]? = some y → pairOk ops i (j + k) x y = true
  | [], j, k, y, h, hk => by simp at hk
  | z :: ys, j, 0, y, h, hk => by
    simp only [rowOk, Bool.and_eq_true] at h
    simp only [List.getElem?_cons_zero, Option.some.injEq] at hk; subst hk
    exact h.1
  | z :: ys, j, k + 1, y, h, hk => by
    simp only [rowOk, Bool.and_eq_true] at h
    have := rowOk_at (j := j + 1) (k := k) h.2 (by simpa using hk)
    rwa [show j + (k + 1) = j + 1 + k by omega]
theorem pairsOk_at {ops : Array Oper} : ∀ {xs : List IOper} {b i j : Nat} {x y : IOper}, pairsOk ops b xs = true → i < j → xs[i]? = some x → xs[j]? = some y → pairOk ops (b + i) (b + j) x y = true
  | [], b, i, j, x, y, h, hlt, hi, hj => by simp at hi
  | z :: xs, b, 0, j, x, y, h, hlt, hi, hj => by
    simp only [pairsOk, Bool.and_eq_true] at h
    simp only [List.getElem?_cons_zero, Option.some.injEq] at hi; subst hi
    obtain ⟨j', rfl⟩ : ∃ j', j = j' + 1 := ⟨j - 1, by omega⟩
    have := rowOk_at (k := j') h.1 (by simpa using hj)
    rw [show b + (j' + 1) = b + 1 + j' by omega]
    exact this
  | z :: xs, b, i + 1, j, x, y, h, hlt, hi, hj => by
    simp only [pairsOk, Bool.and_eq_true] at h
    obtain ⟨j', rfl⟩ : ∃ j', j = j' + 1 := ⟨j - 1, by omega⟩
    have := pairsOk_at (b := b + 1) (i := i) (j := j') h.2 (by omega) (by simpa using hi) (by simpa using hj)
    rw [show b + (i + 1) = b + 1 + i by omega, show b + (j' + 1) = b + 1 + j' by omega]
    exact this
theorem backOk_at : ∀ {os : List Oper} {b k : Nat} {o : Oper}, backOk b os = true → os[k]? = some o → ∀ e ∈ o.after, Region.binds .any e = true → e.on < b + k
  | [], b, k, o, h, hk => by simp at hk
  | z :: os, b, 0, o, h, hk => by
    simp only [backOk, Bool.and_eq_true] at h
    simp only [List.getElem?_cons_zero, Option.some.injEq] at hk; subst hk
    intro e he hb
    have := Array.all_eq_true_iff_forall_mem.1 h.1 e he
    simpa [hb] using this
  | z :: os, b, k + 1, o, h, hk => by
    simp only [backOk, Bool.and_eq_true] at h
    have := backOk_at (b := b + 1) (k := k) h.2 (by simpa using hk)
    rwa [show b + (k + 1) = b + 1 + k by omega]
def Closed (ops : Array Oper) (L : Nat → Bool) : Prop := ∀ j o, ops[j]? = some o → L j = true → ∀ e ∈ o.after, Region.binds .any e = true → L e.on = true
theorem ordB_spec {ops : Array Oper} {L : Nat → Bool} (hc : Closed ops L) : ∀ {n j i : Nat}, ordB ops n j i = true → L j = true → L i = true
  | 0, j, i, h, _ => by simp [ordB] at h
  | n + 1, j, i, h, hj => by
    simp only [ordB] at h
    split at h
    · rename_i o ho
      obtain ⟨e, he, hb⟩ := Array.any_eq_true'.1 h
      simp only [Bool.and_eq_true, Bool.or_eq_true, beq_iff_eq] at hb
      have hl := hc j o ho hj e he hb.1
      rcases hb.2 with hb2 | hb2
      · rwa [← hb2]
      · exact ordB_spec hc hb2 hl
    · cases h
theorem ordB_ready {ops : Array Oper} {L : Nat → Bool} (hc : Closed ops L) {n j i : Nat} {o : Oper} (ho : ops[j]? = some o) (hr : ∀ e ∈ o.after, Region.binds .any e = true → L e.on = true) (h : ordB ops n j i = true) : L i = true := by
  cases n with
  | zero => simp [ordB] at h
  | succ n =>
    simp only [ordB, ho] at h
    obtain ⟨e, he, hb⟩ := Array.any_eq_true'.1 h
    simp only [Bool.and_eq_true, Bool.or_eq_true, beq_iff_eq] at hb
    have hl := hr e he hb.1
    rcases hb.2 with hb2 | hb2
    · rwa [← hb2]
    · exact ordB_spec hc hb2 hl
theorem looks_opd {o : IOper} {n : Nat} (h : Opd.t n ∈ o.op.opds) : n ∈ o.looks := by
  have : ∀ l : List Opd, Opd.t n ∈ l → n ∈ opdTs l := by
    intro l
    induction l with
    | nil => simp
    | cons x l ih =>
      intro h
      rcases List.mem_cons.1 h with h1 | h1
      · subst h1; simp [opdTs]
      · have h2 := ih h1
        cases x <;> simp [opdTs, h2]
  exact List.mem_append_right _ (this _ h)
theorem looks_g {o : IOper} {t : Nat} {b : Bool} (h : o.g = some (t, b)) : t ∈ o.looks := by simp [IOper.looks, h]
section
variable {X : Ctx} {ops : Array Oper} {Q : Exit → Act → World → Prop}
def wpOne (P : Program) (ops : Array Oper) (Q : Exit → Act → World → Prop) (o : Oper) (K : Act → World → Prop) (a : Act) (w : World) : Prop :=
  if Region.wanted o (yielded ops a.tmps) then o.wp P a w K Q ∨ (o.asks P a w ∧ LetsOut Q) else K (a.put o.dst undef) w
def GP (X : Ctx) (ops : Array Oper) (Q : Exit → Act → World → Prop) (o : Oper) (iop : IOper) (s : St) (δ : Deed) : Prop :=
  ∀ {μ C T O a w}, InvAt X μ C T O a w → (∀ n ∈ iop.looks, look s.t n = T n) → (∀ d, δ.mks = some d → μ d = .bool false) →
    (∀ j b, objRd iop j → look s.o j = some b → μ j ≠ .bool false → same (cellsRd iop) (some b) (O j)) →
    wpOne X.P ops Q o (fun a' w' => ∃ μ' C', InvAt X μ' C' (δ.t T) (δ.o O) a' w' ∧ (∀ j, δ.mks ≠ some j → μ' j = μ j) ∧ (∀ d, δ.mks = some d → μ' d ≠ .bool false) ∧ (∀ i, δ.on = some i → μ i ≠ .bool false)) a w
structure Step (X : Ctx) (ops : Array Oper) (Q : Exit → Act → World → Prop) (o : Oper) (iop : IOper) (s s' : St) (δ : Deed) : Prop where
  of : Deed.of iop δ
  sd : δ.s s s'
  st : ∀ i, δ.on = some i → ∃ b, look s.o i = some b
  gp : GP X ops Q o iop s δ
theorem step_sound {nt : Nat} (hnt : nt = X.nt) {ow : List Nat} {hh : Hint} {o : Oper} {iop : IOper} {s : St} {K : St → Prop} (hc : compO X.P nt ow ops hh o = some iop) (he : (match iop.g with
    | none => E1D ⟨X.P, X.G⟩ iop K s
    | some (g, want) => match look s.t g with
      | some (.bool b) => if b = want then E1D ⟨X.P, X.G⟩ iop K s else K (s.putD iop.d (.tup []))
      | some (.tup []) => K (s.putD iop.d (.tup []))
      | _ => False)) : ∃ δ s', Step X ops Q o iop s s' δ ∧ K s' := by
  subst hnt
  obtain ⟨hop', hd, hnt, hg⟩ := compO_inv hc
  have hop : ∀ {K : St → Prop}, E1D ⟨X.P, X.G⟩ iop K s → compOp X.P ow o = some iop.op := by
    intro K he
    rcases hop' with hop | hraw
    · exact hop.1
    · simp only [E1D, hraw, pureV] at he
  rcases hg with ⟨hg, hig⟩ | ⟨j, want, t, hg, ht, hig⟩
  · rw [hig] at he
    simp only at he
    obtain ⟨δ, s', h1, h2, h3, h4, h5⟩ := E1D_sound (hop he) hd hnt he Q
    refine ⟨δ, s', ⟨h1, h2, h4, ?_⟩, h3⟩
    intro μ C T O a w h hT hf hO
    unfold wpOne
    rw [if_pos (by simp [Region.wanted, hg])]
    exact .inl (h5 h (fun n hn => hT n (looks_opd hn)) hf hO)
  · rw [hig] at he
    simp only at he
    split at he
    · rename_i b hb
      have hy : ∀ {μ C T O a w}, InvAt X μ C T O a w → (∀ n ∈ iop.looks, look s.t n = T n) → yielded ops a.tmps j = some b := by
        intro μ C T O a w h hT
        obtain ⟨u, hu, hrel⟩ := h.tm t _ (by rw [← hT t (looks_g hig)]; exact hb)
        rw [hrel.bool_inv] at hu
        exact yielded_of ht hu
      split at he
      · rename_i e
        obtain ⟨δ, s', h1, h2, h3, h4, h5⟩ := E1D_sound (hop he) hd hnt he Q
        refine ⟨δ, s', ⟨h1, h2, h4, ?_⟩, h3⟩
        intro μ C T O a w h hT hf hO
        unfold wpOne
        rw [if_pos (by simp [Region.wanted, hg, hy h hT, e])]
        exact .inl (h5 h (fun n hn => hT n (looks_opd hn)) hf hO)
      · rename_i e
        refine ⟨.put iop.d (.tup []), _, ⟨rfl, look_putD _ _ _, fun _ e => (by cases e), ?_⟩, he⟩
        intro μ C T O a w h hT hf hO
        unfold wpOne
        rw [if_neg (by simp [Region.wanted, hg, hy h hT, e])]
        refine ⟨μ, C, ?_, fun _ _ => rfl, fun _ e => (by cases e), fun _ e => (by cases e)⟩
        rw [hd]
        exact h.putD hnt (.of_rel rel_undef)
    · rename_i hb
      have hy : ∀ {μ C T O a w}, InvAt X μ C T O a w → (∀ n ∈ iop.looks, look s.t n = T n) → yielded ops a.tmps j = none := by
        intro μ C T O a w h hT
        obtain ⟨u, hu, hrel⟩ := h.tm t _ (by rw [← hT t (looks_g hig)]; exact hb)
        rw [tup_nil_inv hrel] at hu
        exact yielded_not ht hu
      refine ⟨.put iop.d (.tup []), _, ⟨rfl, look_putD _ _ _, fun _ e => (by cases e), ?_⟩, he⟩
      intro μ C T O a w h hT hf hO
      unfold wpOne
      rw [if_neg (by simp [Region.wanted, hg, hy h hT])]
      refine ⟨μ, C, ?_, fun _ _ => rfl, fun _ e => (by cases e), fun _ e => (by cases e)⟩
      rw [hd]
      exact h.putD hnt (.of_rel rel_undef)
    · exact he.elim
theorem ERD_step {X : Env} {i : IOper} {is : List IOper} {K : St → Prop} {s : St} (h : ERD X (i :: is) K s) : (match i.g with
    | none => E1D X i (ERD X is K) s
    | some (g, want) => match look s.t g with
      | some (.bool b) => if b = want then E1D X i (ERD X is K) s else ERD X is K (s.putD i.d (.tup []))
      | some (.tup []) => ERD X is K (s.putD i.d (.tup []))
      | _ => False) := h
theorem ERD_chain {ow : List Nat} {hs : List (Nat × Hint)} : ∀ (l : List Oper) (k : Nat) (is : List IOper) (K : St → Prop) (s : St), compL X.P X.nt ow ops hs k l = some is → ERD ⟨X.P, X.G⟩ is K s →
    ∃ (δs : List Deed) (S : Nat → St), δs.length = l.length ∧ is.length = l.length ∧ S 0 = s ∧ K (S l.length) ∧ ∀ (m : Nat) (o : Oper) (iop : IOper), l[m]? = some o → is[m]? = some iop → ∃ δ, δs[m]? = some δ ∧ Step X ops Q o iop (S m) (S (m + 1)) δ
  | [], k, is, K, s, hc, he => by
    simp only [compL, Option.some.injEq] at hc; subst hc
    exact ⟨[], fun _ => s, rfl, rfl, rfl, he, fun m o iop h => by simp at h⟩
  | o :: l, k, is, K, s, hc, he => by
    simp only [compL] at hc
    split at hc
    · rename_i i is' h1 h2
      injection hc with hc; subst hc
      obtain ⟨δ, s', hst, hk⟩ := step_sound (Q := Q) rfl h1 (ERD_step he)
      obtain ⟨δs, S, hl, hli, h0, hK, hs⟩ := ERD_chain l (k + 1) is' K s' h2 hk
      refine ⟨δ :: δs, fun m => match m with | 0 => s | m + 1 => S m, by simp [hl], by simp [hli], rfl, hK, ?_⟩
      intro m o' iop' ho hi
      cases m with
      | zero =>
        simp only [List.getElem?_cons_zero, Option.some.injEq] at ho hi
        subst ho hi
        exact ⟨δ, rfl, by rw [← h0] at hst; exact hst⟩
      | succ m => exact hs m o' iop' (by simpa using ho) (by simpa using hi)
    · cases hc
end
end Go.Proofs.YtgehlcgjchfibaaGreatDoor.F
namespace Go.Proofs.YtgehlcgjchfibaaGreatDoor.F
open Go Go.RowKit
def fresh (s : St) : List IOper → Bool
  | [] => true
  | o :: os => (match o.op.isNew, o.d with | true, some d => (s.t.all fun p => p.2.nid d) && (look s.o d).isNone && d != pinned | _, _ => true) && fresh s os
theorem fresh_at {s : St} : ∀ {os : List IOper} {o : IOper} {d : Nat}, fresh s os = true → o ∈ os → o.op.isNew = true → o.d = some d → (∀ t v, look s.t t = some v → v.nid d = true) ∧ look s.o d = none ∧ d ≠ pinned
  | [], o, d, h, hm, _, _ => by simp at hm
  | x :: os, o, d, h, hm, hn, hd => by
    simp only [fresh, Bool.and_eq_true] at h
    rcases List.mem_cons.1 hm with hm | hm
    · subst hm
      rw [hn, hd] at h
      simp only [Bool.and_eq_true, List.all_eq_true, Option.isNone_iff_eq_none, bne_iff_ne, ne_eq] at h
      exact ⟨fun t v ht => h.1.1.1 _ (look_mem ht), h.1.1.2, h.1.2⟩
    · exact fresh_at h.2 hm hn hd
theorem layT_text {S : Nat → St} : ∀ (ds : List Deed) (b m : Nat), (∀ k (δ : Deed), ds[k]? = some δ → δ.s (S (b + k)) (S (b + k + 1))) → b ≤ m → m ≤ b + ds.length →
    layT ds b (fun k => decide (k < m)) (look (S b).t) = look (S m).t ∧ layO ds b (fun k => decide (k < m)) (look (S b).o) = look (S m).o
  | [], b, m, h, h1, h2 => by
    have : m = b := by simp at h2; omega
    subst this; exact ⟨rfl, rfl⟩
  | δ :: ds, b, m, h, h1, h2 => by
    by_cases hb : b < m
    · have h0 := h 0 δ (by simp)
      simp only [Nat.add_zero] at h0
      simp only [layT, layO, hb, decide_true, if_true]
      rw [← h0.1, ← h0.2]
      exact layT_text ds (b + 1) m (fun k δ' hk => by have := h (k + 1) δ' (by simpa using hk); rwa [show b + (k + 1) = b + 1 + k by omega] at this) hb (by simp only [List.length_cons] at h2; omega)
    · have : m = b := by omega
      subst this
      exact ⟨layT_none _ _ _ fun k hk _ => by simp; omega, layO_none _ _ _ fun k hk _ => by simp; omega⟩
theorem layO_gone {j : Nat} {L : Nat → Bool} : ∀ (ds : List Deed) (b : Nat) (O : Nat → Option Ob), O j = none → (∀ k δ, ds[k]? = some δ → L (b + k) = true → δ.mks ≠ some j) → layO ds b L O j = none
  | [], b, O, h, _ => h
  | δ :: ds, b, O, h, hn => by
    simp only [layO]
    refine layO_gone ds (b + 1) _ ?_ fun k δ' hk hl => hn (k + 1) δ' (by simpa using hk) (by rwa [show b + (k + 1) = b + 1 + k by omega])
    split
    · rename_i hl
      cases δ with
      | put => exact h
      | new d Ty cs =>
        simp only [Deed.o, setF]
        rw [if_neg fun e => hn 0 (.new d Ty cs) (by simp) hl (by rw [e]; rfl)]
        exact h
      | st i off vs =>
        simp only [Deed.o]
        split
        · rename_i e; subst e; rw [h]; rfl
        · exact h
      | newr d E sz xs =>
        simp only [Deed.o, setF]
        rw [if_neg fun e => hn 0 (.newr d E sz xs) (by simp) hl (by rw [e]; rfl)]
        exact h
      | fapp d i sz zs =>
        simp only [Deed.o, setF]
        split
        · rfl
        · exact h
      | els i k v =>
        simp only [Deed.o]
        split
        · rename_i e; subst e; rw [h]; rfl
        · exact h
    · exact h
theorem w_of {o : IOper} {δ : Deed} {t : Nat} (h : Deed.of o δ) (hw : δ.w = some t) : o.d = some t := by
  cases δ with
  | put d v => simp only [Deed.w] at hw; subst hw; exact h.symm
  | new d Ty cs => simp only [Deed.w, Option.some.injEq] at hw; subst hw; exact h.1
  | st => simp [Deed.w] at hw
  | newr d E sz xs => simp only [Deed.w, Option.some.injEq] at hw; subst hw; exact h.1
  | fapp d i sz zs => simp only [Deed.w, Option.some.injEq] at hw; subst hw; exact h.1
  | els => simp [Deed.w] at hw
theorem w_mks {δ : Deed} {d : Nat} (h : δ.mks = some d) : δ.w = some d := by cases δ <;> first | exact h | cases h
theorem of_mks {o : IOper} {δ : Deed} {d : Nat} (h : Deed.of o δ) (hm : δ.mks = some d) : o.d = some d ∧ o.op.isNew = true := by
  cases δ <;> first | (cases hm; done) | (simp only [Deed.mks, Option.some.injEq] at hm; subst hm; exact h)
theorem of_on {o : IOper} {δ : Deed} {i : Nat} (h : Deed.of o δ) (hm : δ.on = some i) : o.eff = true := by
  cases δ <;> first | (cases hm; done) | (simp [IOper.eff, h.2.1]; done)
theorem hits_on {j : Nat} {δ : Deed} (h : hits j δ) : δ.mks = some j ∨ δ.on = some j := by
  cases δ <;> simp only [hits] at h <;> first | exact h.elim | (subst h; first | exact .inl rfl | exact .inr rfl)
section
variable {X : Ctx} {ops : Array Oper} {Q : Exit → Act → World → Prop}
structure Row (X : Ctx) (ops : Array Oper) (Q : Exit → Act → World → Prop) (is : List IOper) (δs : List Deed) (S : Nat → St) : Prop where
  dl : δs.length = ops.size
  il : is.length = ops.size
  at_ : ∀ (m : Nat) (o : Oper) (iop : IOper), ops[m]? = some o → is[m]? = some iop → ∃ δ, δs[m]? = some δ ∧ Step X ops Q o iop (S m) (S (m + 1)) δ
  ok : pairsOk ops 0 is = true
  fr : fresh (S 0) is = true
theorem Row.get {is : List IOper} {δs : List Deed} {S : Nat → St} (R : Row X ops Q is δs S) {k : Nat} {δ : Deed} (h : δs[k]? = some δ) : ∃ o iop, ops[k]? = some o ∧ is[k]? = some iop ∧ Step X ops Q o iop (S k) (S (k + 1)) δ := by
  have hk : k < ops.size := by rw [← R.dl]; exact (List.getElem?_eq_some_iff.1 h).1
  have ho : ops[k]? = some ops[k] := Array.getElem?_eq_getElem hk
  have hi : is[k]? = some (is[k]'(by rw [R.il]; exact hk)) := List.getElem?_eq_getElem _
  obtain ⟨δ', h1, h2⟩ := R.at_ k _ _ ho hi
  rw [h] at h1; injection h1 with h1; subst h1
  exact ⟨_, _, ho, hi, h2⟩
theorem Row.text {is : List IOper} {δs : List Deed} {S : Nat → St} (R : Row X ops Q is δs S) {m : Nat} (h : m ≤ ops.size) :
    layT δs 0 (fun k => decide (k < m)) (look (S 0).t) = look (S m).t ∧ layO δs 0 (fun k => decide (k < m)) (look (S 0).o) = look (S m).o := by
  refine layT_text δs 0 m (fun k δ hk => ?_) (Nat.zero_le _) (by rw [R.dl]; omega)
  obtain ⟨o, iop, _, _, hs⟩ := R.get hk
  simpa using hs.sd
theorem Row.pair {is : List IOper} {δs : List Deed} {S : Nat → St} (R : Row X ops Q is δs S) {i j : Nat} {x y : IOper} (hlt : i < j) (hi : is[i]? = some x) (hj : is[j]? = some y) : pairOk ops i j x y = true := by
  simpa using pairsOk_at (b := 0) R.ok hlt hi hj
theorem Row.dst {is : List IOper} {δs : List Deed} {S : Nat → St} (R : Row X ops Q is δs S) {i j : Nat} {x y : IOper} (hne : i ≠ j) (hi : is[i]? = some x) (hj : is[j]? = some y) {d : Nat} (hx : x.d = some d) : y.d ≠ some d := by
  intro hy
  rcases Nat.lt_or_gt_of_ne hne with h | h
  · have := R.pair h hi hj
    simp [pairOk, hx, hy] at this
  · have := R.pair h hj hi
    simp [pairOk, hx, hy] at this
theorem Row.uniq {is : List IOper} {δs : List Deed} {S : Nat → St} (R : Row X ops Q is δs S) {i j : Nat} {δ δ' : Deed} {t : Nat} (hne : i ≠ j) (hi : δs[i]? = some δ) (hj : δs[j]? = some δ') (h : δ.w = some t) : δ'.w ≠ some t := by
  intro h'
  obtain ⟨_, _, _, hx, s1⟩ := R.get hi
  obtain ⟨_, _, _, hy, s2⟩ := R.get hj
  exact R.dst hne hx hy (w_of s1.of h) (w_of s2.of h')
theorem Row.gone {is : List IOper} {δs : List Deed} {S : Nat → St} (R : Row X ops Q is δs S) {k m d : Nat} {δ : Deed} (hk : δs[k]? = some δ) (hd : δ.mks = some d) (hm : m ≤ k) : look (S m).o d = none := by
  obtain ⟨o, iop, ho, hi, hs⟩ := R.get hk
  have hkl : k < ops.size := by rw [← R.dl]; exact (List.getElem?_eq_some_iff.1 hk).1
  rw [← (R.text (m := m) (by omega)).2]
  refine layO_gone _ _ _ (fresh_at R.fr (List.mem_of_getElem? hi) (of_mks hs.of hd).2 (of_mks hs.of hd).1).2.1 fun k' δ' hk' hl e => ?_
  simp only [Nat.zero_add, decide_eq_true_eq] at hl
  exact R.uniq (i := k) (j := k') (by omega) hk hk' (t := d) (w_mks hd) (w_mks e)
structure RI (X : Ctx) (ops : Array Oper) (δs : List Deed) (s : St) (L : Nat → Bool) (μ : Nat → Value) (C : Nat → Nat → Prop) (a : Act) (w : World) : Prop where
  inv : InvAt X μ C (layT δs 0 L (look s.t)) (layO δs 0 L (look s.o)) a w
  al : ∀ k d δ, δs[k]? = some δ → δ.mks = some d → (μ d ≠ .bool false ↔ L k = true)
  st : ∀ k i δ, L k = true → δs[k]? = some δ → δ.on = some i → μ i ≠ .bool false
  cl : Closed ops L
theorem ord_eq {L : Nat → Bool} (hc : Closed ops L) {is : List IOper} {δs : List Deed} {S : Nat → St} (R : Row X ops Q is δs S) {i k : Nat} {o : Oper} (ho : ops[i]? = some o) (hL : L i = false) (hr : ∀ e ∈ o.after, Region.binds .any e = true → L e.on = true)
    (h1 : k < i → ordB ops 3 i k = true) (h2 : i < k → ordB ops 3 k i = true) : decide (k < i) = L k := by
  rcases Nat.lt_trichotomy k i with h | h | h
  · simp [h, ordB_ready hc ho hr (h1 h)]
  · subst h; simp [hL]
  · cases hk : L k with
    | false => simp; omega
    | true =>
      have := ordB_spec hc (h2 h) hk
      rw [hL] at this; cases this
theorem RI.step {L : Nat → Bool} {μ : Nat → Value} {C : Nat → Nat → Prop} {a : Act} {w : World} {is : List IOper} {δs : List Deed} {S : Nat → St} (R : Row X ops Q is δs S) (h : RI X ops δs (S 0) L μ C a w) {i : Nat} {o : Oper} (ho : ops[i]? = some o) (hL : L i = false)
    (hr : ∀ e ∈ o.after, Region.binds .any e = true → L e.on = true) : wpOp X.P ops Q i (fun a' w' => ∃ μ' C', RI X ops δs (S 0) (insL L i) μ' C' a' w') a w := by
  have hil : i < ops.size := (Array.getElem?_eq_some_iff.1 ho).1
  have hi : is[i]? = some (is[i]'(by rw [R.il]; exact hil)) := List.getElem?_eq_getElem _
  generalize is[i]'(by rw [R.il]; exact hil) = iop at hi
  obtain ⟨δ, hδ, hs⟩ := R.at_ i o iop ho hi
  obtain ⟨hTt, hTo⟩ := R.text (m := i) (by omega)
  have hgp := hs.gp h.inv (fun n hn => ?_) (fun d e => ?_) (fun j b hob hj hμ => ?_)
  rotate_left
  · -- temporaries
    rw [← hTt]
    refine layT_same δs 0 _ _ rfl fun k δ' hk hw => ?_
    obtain ⟨o', x, ho', hx, hs'⟩ := R.get hk
    have hxd := w_of hs'.of hw
    have hrd : iop.reads x.d = true := by rw [hxd]; simpa [IOper.reads] using hn
    simp only [Nat.zero_add]
    refine ord_eq h.cl R ho hL hr (fun hlt => ?_) (fun hlt => ?_)
    · have := R.pair hlt hx hi
      simp only [pairOk, Bool.and_eq_true, Bool.or_eq_true, Bool.not_eq_true', hrd] at this
      rcases this.2 with h1 | h1
      · exact h1
      · simp at h1
    · have := R.pair hlt hi hx
      simp only [pairOk, Bool.and_eq_true, Bool.or_eq_true, Bool.not_eq_true', hrd] at this
      rcases this.2 with h1 | h1
      · exact h1
      · simp at h1
  · have := h.al i d δ hδ e
    rw [hL] at this
    exact Classical.not_not.1 fun hn => by simpa using this.1 hn
  · rw [← hj, ← hTo]
    refine layO_same δs 0 _ _ (same.rfl' _ _) fun k δ' hk ht => ?_
    obtain ⟨o', x, ho', hx, hs'⟩ := R.get hk
    simp only [Nat.zero_add]
    have hnew : ∀ d, δ'.mks = some d → d = j → decide (k < i) = L k := by
      rintro d hd rfl
      rw [(h.al k d δ' hk hd).1 hμ]
      simp only [decide_eq_true_eq]
      refine Classical.not_not.1 fun hn => ?_
      rw [R.gone hk hd (by omega : i ≤ k)] at hj
      cases hj
    have heff : x.eff = true → (iop.op.rd = true ∧ hintFree x.h iop.h = false ∨ iop.eff = true) → decide (k < i) = L k := by
      intro hxs hor
      refine ord_eq h.cl R ho hL hr (fun hlt => ?_) (fun hlt => ?_)
      · have := R.pair hlt hx hi
        rcases hor with ⟨hrd, hf⟩ | hie
        · simp only [pairOk, Bool.and_eq_true, Bool.or_eq_true, Bool.not_eq_true', hrd, hxs, hf] at this
          rcases this.2 with h1 | h1
          · exact h1
          · simp at h1
        · simp only [pairOk, Bool.and_eq_true, Bool.or_eq_true, Bool.not_eq_true', hie, hxs] at this
          rcases this.2 with h1 | h1
          · exact h1
          · simp at h1
      · have := R.pair hlt hi hx
        rcases hor with ⟨hrd, hf⟩ | hie
        · simp only [pairOk, Bool.and_eq_true, Bool.or_eq_true, Bool.not_eq_true', hrd, hxs, hf] at this
          rcases this.2 with h1 | h1
          · exact h1
          · simp at h1
        · simp only [pairOk, Bool.and_eq_true, Bool.or_eq_true, Bool.not_eq_true', hie, hxs] at this
          rcases this.2 with h1 | h1
          · exact h1
          · simp at h1
    have hoe : iop.op.rd = true ∨ iop.eff = true := by
      unfold objRd at hob
      unfold IOper.eff
      split at hob
      · simpa [or_assoc] using hob
      · exact hob.elim
      · simpa [or_assoc] using hob.1
    cases δ' with
    | put => exact ht.elim
    | new d Ty cs => exact hnew d rfl ht
    | newr d E sz xs => exact hnew d rfl ht
    | fapp d i' sz zs =>
      simp only [touches] at ht; subst ht
      refine heff (of_on hs'.of rfl) ?_
      rcases hoe with hrd | hie
      · refine .inl ⟨hrd, ?_⟩
        have hany := hs'.of.2.2
        unfold objRd at hob
        cases hxh : x.h <;> rw [hxh] at hany <;> first | (cases hany; done) | skip
        cases hih : iop.h <;> rw [hih] at hob <;> first | rfl | exact hob.elim
      · exact .inr hie
    | els i' k v =>
      simp only [touches] at ht; subst ht
      refine heff (of_on hs'.of rfl) ?_
      rcases hoe with hrd | hie
      · refine .inl ⟨hrd, ?_⟩
        have hany := hs'.of.2.2
        unfold objRd at hob
        cases hxh : x.h <;> rw [hxh] at hany <;> first | (cases hany; done) | skip
        cases hih : iop.h <;> rw [hih] at hob <;> first | rfl | exact hob.elim
      · exact .inr hie
    | st j' off vs =>
      obtain ⟨rfl, m, hm1, hm2, hm3⟩ := ht
      obtain ⟨_, hxs, hxw⟩ := hs'.of
      have hrd : iop.op.rd = true := by unfold cellsRd at hm3; split at hm3; exact hm3; exact hm3.elim; exact hm3.1
      have hf : hintFree x.h iop.h = false := by
        unfold okW at hxw
        unfold cellsRd at hm3
        unfold objRd at hob
        cases hxh : x.h <;> cases hih : iop.h <;> simp only [hxh, hih] at hxw hm3 hob <;> simp only [hintFree]
        all_goals first | exact hob.elim | exact hxw.elim | skip
        obtain ⟨rfl, rfl, rfl⟩ := hxw
        have e := hob.2
        simp only [Bool.or_eq_false_iff, bne_eq_false_iff_eq, decide_eq_false_iff_not]
        refine ⟨⟨e, by omega⟩, by omega⟩
      exact heff (of_on hs'.of rfl) (.inl ⟨hrd, hf⟩)
  · have hins1 : layT δs 0 (insL L i) (look (S 0).t) = δ.t (layT δs 0 L (look (S 0).t)) := layT_ins hδ _ fun t k δ' hne hk hw => R.uniq (Ne.symm hne) hδ hk hw
    have hins2 : layO δs 0 (insL L i) (look (S 0).o) = δ.o (layO δs 0 L (look (S 0).o)) := layO_ins hδ hL _ fun j k δ' hj hlt hk hl hj' => by
      obtain ⟨o', x, ho', hx, hs'⟩ := R.get hk
      rcases hits_on hj with hm | hm <;> rcases hits_on hj' with hm' | hm'
      · exact R.uniq (i := i) (j := k) (by omega) hδ hk (t := j) (w_mks hm) (w_mks hm')
      · have := (h.al i j δ hδ hm).1 (h.st k j δ' hl hk hm')
        rw [hL] at this; cases this
      · obtain ⟨_, h1⟩ := hs.st _ hm
        rw [R.gone hk hm' (by omega : i ≤ k)] at h1
        cases h1
      · have hxs := of_on hs'.of hm'
        have his := of_on hs.of hm
        have := R.pair hlt hi hx
        simp only [pairOk, Bool.and_eq_true, Bool.or_eq_true, Bool.not_eq_true', his, hxs] at this
        rcases this.2 with h1 | h1
        · have := ordB_spec h.cl h1 hl
          rw [hL] at this; cases this
        · simp at h1
    have hgo : ∀ {a' : Act} {w' : World}, (∃ μ' C', InvAt X μ' C' (δ.t (layT δs 0 L (look (S 0).t))) (δ.o (layO δs 0 L (look (S 0).o))) a' w' ∧ (∀ j, δ.mks ≠ some j → μ' j = μ j) ∧ (∀ d, δ.mks = some d → μ' d ≠ .bool false) ∧ (∀ i, δ.on = some i → μ i ≠ .bool false)) →
        ∃ μ' C', RI X ops δs (S 0) (insL L i) μ' C' a' w' := by
      rintro a' w' ⟨μ', C', hinv, hμ1, hμ2, hμ3⟩
      refine ⟨μ', C', by rw [hins1, hins2]; exact hinv, fun k d δ' hk hd => ?_, fun k j δ' hl hk hj => ?_, fun j oj hoj hl e he hb => ?_⟩
      · by_cases e : k = i
        · subst e
          rw [hδ] at hk; injection hk with hk; subst hk
          simp [insL, hμ2 d hd]
        · rw [hμ1 d fun e' => R.uniq (i := i) (j := k) (Ne.symm e) hδ hk (t := d) (w_mks e') (w_mks hd), h.al k d δ' hk hd]
          simp [insL, e]
      · have hm : μ j ≠ .bool false := by
          by_cases e : k = i
          · subst e
            rw [hδ] at hk; injection hk with hk; subst hk
            exact hμ3 j hj
          · exact h.st k j δ' (by simpa [insL, e] using hl) hk hj
        by_cases hn : δ.mks = some j
        · exact hμ2 j hn
        · rw [hμ1 j hn]; exact hm
      · by_cases e' : j = i
        · subst e'
          rw [ho] at hoj; injection hoj with hoj; subst hoj
          simp [insL, hr e he hb]
        · have := h.cl j oj hoj (by simpa [insL, e'] using hl) e he hb
          simp [insL, this]
    unfold wpOp
    simp only [ho]
    unfold wpOne at hgp
    split
    · rename_i hw
      rw [if_pos hw] at hgp
      exact hgp.imp (Oper.wp_mono fun a' w' h' => hgo h') id
    · rename_i hw
      rw [if_neg hw] at hgp
      exact hgo hgp
theorem getD_set_fun (l : Array Bool) {i : Nat} (h : i < l.size) : (fun k => (l.setIfInBounds i true).getD k false) = insL (fun k => l.getD k false) i := by
  funext k
  simp only [insL, Array.getD_eq_getD_getElem?, Array.getElem?_setIfInBounds]
  by_cases e : i = k
  · subst e; simp [h]
  · simp [e, Ne.symm e]
theorem ready_nil {is : List IOper} {l : Array Bool} (hb : backOk 0 ops.toList = true) (hl : l.size = ops.size) (h : Region.ready .any ops l = []) : ∀ k, k < ops.size → l.getD k false = true := by
  intro k
  induction k using Nat.strongRecOn with
  | _ k ih =>
    intro hk
    refine Classical.not_not.1 fun hn => ?_
    have hn : l.getD k false = false := by simpa using hn
    have hmem : k ∈ Region.ready .any ops l := by
      unfold Region.ready
      rw [List.mem_filter]
      refine ⟨List.mem_range.2 hk, ?_⟩
      have hkl : k < l.size := by omega
      have h1 : l.getD k true = false := by
        simp only [Array.getD_eq_getD_getElem?, Array.getElem?_eq_getElem hkl, Option.getD_some] at hn ⊢; exact hn
      rw [h1]
      simp only [Bool.not_false, Bool.true_and, Array.getElem?_eq_getElem hk, Option.map_some, Option.getD_some]
      rw [Array.all_eq_true_iff_forall_mem]
      intro e he
      cases hbi : Region.binds .any e with
      | false => rfl
      | true =>
        have := backOk_at (b := 0) (k := k) (o := ops[k]) hb (by simp [hk]) e he hbi
        simp only [Nat.zero_add] at this
        simp [ih e.on this (by omega)]
    rw [h] at hmem
    cases hmem
theorem region_any {is : List IOper} {δs : List Deed} {S : Nat → St} (R : Row X ops Q is δs S) (hb : backOk 0 ops.toList = true) (hQ : ∀ a w, Inv X (S ops.size) a w → Q .normal a w) : ∀ (fuel : Nat) (l : Array Bool) (a : Act) (w : World), l.size = ops.size → l.toList.count false = fuel → (∃ μ C, RI X ops δs (S 0) (fun k => l.getD k false) μ C a w) →
    wpAny X.P .any ops Q fuel l a w := by
  have fin : ∀ (l : Array Bool) (a : Act) (w : World), (∀ k, k < ops.size → l.getD k false = true) → (∃ μ C, RI X ops δs (S 0) (fun k => l.getD k false) μ C a w) → Q .normal a w := by
    rintro l a w hall ⟨μ, C, h⟩
    refine hQ a w ⟨μ, C, ?_⟩
    obtain ⟨h1, h2⟩ := R.text (m := ops.size) (Nat.le_refl _)
    rw [← h1, ← h2]
    have e1 : layT δs 0 (fun k => decide (k < ops.size)) (look (S 0).t) = layT δs 0 (fun k => l.getD k false) (look (S 0).t) := by
      funext t
      refine layT_same δs 0 _ _ rfl fun k δ hk _ => ?_
      have : k < ops.size := by rw [← R.dl]; exact (List.getElem?_eq_some_iff.1 hk).1
      simp [this, hall k this]
    have e2 : layO δs 0 (fun k => decide (k < ops.size)) (look (S 0).o) = layO δs 0 (fun k => l.getD k false) (look (S 0).o) := by
      funext t
      refine same.eq (layO_same δs 0 _ _ (same.rfl' _ _) fun k δ hk _ => ?_)
      have : k < ops.size := by rw [← R.dl]; exact (List.getElem?_eq_some_iff.1 hk).1
      simp [this, hall k this]
    rw [e1, e2]
    exact h.inv
  intro fuel
  induction fuel with
  | zero =>
    intro l a w hl hc h
    have hall : ∀ k, k < ops.size → l.getD k false = true := by
      intro k hk
      have hkl : k < l.size := by omega
      simp only [Array.getD_eq_getD_getElem?, Array.getElem?_eq_getElem hkl, Option.getD_some]
      have := (List.count_eq_zero.1 hc)
      refine Classical.not_not.1 fun hn => this ?_
      have e : l[k] = false := by simpa using hn
      rw [← e]
      exact Array.getElem_mem_toList hkl
    refine ⟨?_, fin l a w hall h⟩
    unfold Region.ready
    rw [List.filter_eq_nil_iff]
    intro k hk
    have hk := List.mem_range.1 hk
    have hkl : k < l.size := by omega
    have := hall k hk
    simp only [Array.getD_eq_getD_getElem?, Array.getElem?_eq_getElem hkl, Option.getD_some] at this ⊢
    simp [this]
  | succ fuel ih =>
    intro l a w hl hc h
    refine ⟨fun hr => fin l a w (ready_nil (is := is) hb hl hr) h, fun i hi => ?_⟩
    obtain ⟨μ, C, h⟩ := h
    unfold Region.ready at hi
    rw [List.mem_filter] at hi
    obtain ⟨hi, hrd⟩ := hi
    have hi := List.mem_range.1 hi
    have hil : i < l.size := by omega
    simp only [Bool.and_eq_true, Bool.not_eq_true', Array.getElem?_eq_getElem hi, Option.map_some, Option.getD_some] at hrd
    obtain ⟨hun, hall⟩ := hrd
    have hun' : l.getD i false = false := by
      simp only [Array.getD_eq_getD_getElem?, Array.getElem?_eq_getElem hil, Option.getD_some] at hun ⊢; exact hun
    refine wpOp_mono (fun a' w' h' => ih _ a' w' (by simp [hl]) ?_ ?_) (h.step R (Array.getElem?_eq_getElem hi) hun' fun e he hb' => ?_)
    · have e : l[i] = false := by simpa [Array.getD_eq_getD_getElem?, Array.getElem?_eq_getElem hil] using hun'
      rw [Array.toList_setIfInBounds, List.count_set (by simpa using hil), hc]
      simp [e]
    · rw [getD_set_fun l hil]; exact h'
    · rw [Array.all_eq_true_iff_forall_mem] at hall
      have := hall e he
      simpa [hb'] using this
theorem RI.start {is : List IOper} {δs : List Deed} {S : Nat → St} {a : Act} {w : World} (R : Row X ops Q is δs S) (h : Inv X (S 0) a w) : ∃ μ C, RI X ops δs (S 0) (fun k => (Array.replicate ops.size false).getD k false) μ C a w := by
  obtain ⟨μ, C, h⟩ := h
  have hL : (fun k => (Array.replicate ops.size false).getD k false) = fun _ => false := by
    funext k
    simp only [Array.getD_eq_getD_getElem?, Array.getElem?_replicate]
    split <;> rfl
  rw [hL]
  have hD : ∀ (k d : Nat) (δ : Deed), δs[k]? = some δ → δ.mks = some d → (∀ t v, look (S 0).t t = some v → v.nid d = true) ∧ look (S 0).o d = none ∧ d ≠ pinned := by
    intro k d δ hk hd
    obtain ⟨o, iop, _, hi, hs⟩ := R.get hk
    exact fresh_at R.fr (List.mem_of_getElem? hi) (of_mks hs.of hd).2 (of_mks hs.of hd).1
  let D : Nat → Prop := fun d => ∃ (k : Nat) (δ : Deed), δs[k]? = some δ ∧ δ.mks = some d
  haveI : DecidablePred D := fun _ => Classical.propDecidable _
  have hm : ∀ d, ¬ D d → (if D d then Value.bool false else μ d) = μ d := fun d hd => if_neg hd
  refine ⟨fun d => if D d then Value.bool false else μ d, C, ⟨?_, ?_, ?_, ?_⟩⟩
  · rw [layT_none _ _ _ (fun _ _ _ => rfl), layO_none _ _ _ (fun _ _ _ => rfl)]
    have hnO : ∀ i b, look (S 0).o i = some b → ¬ D i := fun i b hi ⟨k, δ, hk, hd⟩ => by rw [(hD k i δ hk hd).2.1] at hi; cases hi
    refine ⟨fun t v ht => ?_, fun i b hi => ?_, fun i j b c hi hj hne => ?_, h.cw, h.c0, h.gr, h.be, h.sz, h.df, h.nw, fun m hm' => (hm pinned fun ⟨k, δ, hk, hd⟩ => (hD k pinned δ hk hd).2.2 rfl).trans (h.pn m hm'), h.nb⟩
    · obtain ⟨u, hu, hr⟩ := h.tm t v ht
      refine ⟨u, hu, ?_⟩
      have hnid : ∀ d, v.nid d = false → ¬ D d := fun d hv ⟨k, δ, hk, hd⟩ => by rw [(hD k d δ hk hd).1 t v ht] at hv; cases hv
      cases v
      case box i off =>
        obtain ⟨g, h1, h2⟩ := hr
        exact ⟨g, (hm i (hnid i (by simp [AV.nid]))).trans h1, h2⟩
      case own i =>
        obtain ⟨h1, A, n, c, h2⟩ := hr
        have e := hm i (hnid i (by simp [AV.nid]))
        exact ⟨h1.trans e.symm, A, n, c, e.trans h2⟩
      case elt i k =>
        obtain ⟨g, n, c, h1, h2⟩ := hr
        exact ⟨g, n, c, (hm i (hnid i (by simp [AV.nid]))).trans h1, h2⟩
      all_goals exact hr
    · simp only [hm i (hnO i b hi)]; exact h.ob i b hi
    · simp only [hm i (hnO i b hi), hm j (hnO j c hj)]; exact h.ap i j b c hi hj hne
  · intro k d δ hk hd
    simp only [if_pos (show D d from ⟨k, δ, hk, hd⟩)]
    simp
  · intro k i δ hl; cases hl
  · intro j o _ hl; cases hl
theorem ERD_sound {ow : List Nat} {hs : List (Nat × Hint)} {is : List IOper} {id : Nat} {K : St → Prop} {s : St} {a : Act} {w : World} (hm : X.P.follows .mixedOrders = true) (hc : compL X.P X.nt ow ops hs 0 ops.toList = some is) (ho : orderOk ops is = true) (hf : fresh s is = true) (he : ERD ⟨X.P, X.G⟩ is K s) (hi : Inv X s a w)
    (hQ : ∀ s' a' w', Inv X s' a' w' → K s' → Q .normal a' w') : (Code.region id ops true).wp X.P Q a w := by
  simp only [orderOk, Bool.and_eq_true] at ho
  obtain ⟨δs, S, hl, hli, h0, hK, hst⟩ := ERD_chain (Q := Q) (ops := ops) ops.toList 0 is K s hc he
  have R : Row X ops Q is δs S := ⟨by simpa using hl, by simpa using hli, fun m o iop h1 h2 => hst m o iop (by simpa using h1) h2, ho.1, by rw [h0]; exact hf⟩
  have hi' : Inv X (S 0) a { w with drawn := w.drawn + 1 } := by
    rw [h0]
    obtain ⟨μ, C, h⟩ := hi
    exact ⟨μ, C, h.world ⟨rfl, rfl, rfl, Nat.le_refl _, fun _ _ => rfl⟩⟩
  refine wp_region_any hm (region_any R ho.2 (fun a' w' h' => hQ _ a' w' h' (by simpa using hK)) _ _ a _ (by simp) ?_ (RI.start R hi'))
  simp
end
end Go.Proofs.YtgehlcgjchfibaaGreatDoor.F
namespace Go.Proofs.YtgehlcgjchfibaaGreatDoor.F
open Go Go.RowKit
structure Keep where
  kt : List Nat
  ko : List Nat
  hs : List (Nat × Hint)
def keepAt : List (Nat × Keep) → Nat → Keep
  | [], _ => ⟨[], [], []⟩
  | p :: l, k => if p.1 = k then p.2 else keepAt l k
def compC (P : Program) (nt : Nat) (ow : List Nat) (kp : List (Nat × Keep)) : Code → Option IC
  | .skip => some .skip
  | .region id ops dr => match compL P nt ow ops (keepAt kp id).hs 0 ops.toList with
    | some l => if dr = true ∧ orderOk ops l = false then none else some (.reg l dr (keepAt kp id).kt (keepAt kp id).ko)
    | none => none
  | .seq a b => match compC P nt ow kp a, compC P nt ow kp b with | some a, some b => some (.seq a b) | _, _ => none
  | .cond x a b => match compOpd x, compC P nt ow kp a, compC P nt ow kp b with | some x, some a, some b => some (.cond x a b) | _, _, _ => none
  | .block i a => match compC P nt ow kp a with | some a => some (.block i a) | none => none
  | .loop a => match compC P nt ow kp a with | some a => some (.loop a) | none => none
  | .exit i => some (.exit i)
  | .ret => some .ret
  | _ => none
def thenQ (K : St → Prop) (Q : Exit → St → Prop) : Exit → St → Prop
  | .normal, s => K s
  | e, s => Q e s
def blockQ (i : Nat) (Q : Exit → St → Prop) : Exit → St → Prop
  | .exit j, s => if j = i then Q .normal s else Q (.exit j) s
  | e, s => Q e s
def Gh (s s' : St) : Prop := ∀ (X : Ctx) (a : Act) (w : World), Inv X s a w → Inv X s' a w
def kpQ (Q : Exit → St → Prop) (kt ko : List Nat) (s : St) : Prop := Q .normal (s.keep kt ko)
def backQ (I : Nat → St → Prop) (n : Nat) (s : St) : Prop := ∃ s' n', Gh s s' ∧ n' < n ∧ I n' s'
def VC (X : Env) : IC → (Exit → St → Prop) → St → Prop
  | .skip, Q, s => Q .normal s
  | .reg ops false kt ko, Q, s => ER X false ops (kpQ Q kt ko) s
  | .reg ops true kt ko, Q, s => fresh s ops = true ∧ ERD X ops (kpQ Q kt ko) s
  | .seq a b, Q, s => VC X a (thenQ (VC X b Q) Q) s
  | .cond x a b, Q, s => match opd X.G s x with
    | some (.bool c) => if c = true then VC X a Q s else VC X b Q s
    | _ => False
  | .block i a, Q, s => VC X a (blockQ i Q) s
  | .loop a, Q, s => ∃ (I : Nat → St → Prop) (n : Nat) (s0 : St), Gh s s0 ∧ I n s0 ∧ ∀ n s, I n s → VC X a (thenQ (backQ I n) Q) s
  | .exit i, Q, s => Q (.exit i) s
  | .ret, Q, s => Q .ret s
theorem Gh.refl (s : St) : Gh s s := fun _ _ _ h => h
theorem Gh.trans {s s' s'' : St} (h : Gh s s') (h' : Gh s' s'') : Gh s s'' := fun X a w hi => h' X a w (h X a w hi)
theorem Gh.frz (s : St) (i : Nat) : Gh s (s.frz i) := fun _ _ _ h => h.frz i
theorem Gh.keep (s : St) (kt ko : List Nat) : Gh s (s.keep kt ko) := fun _ _ _ h => h.keep kt ko
theorem Gh.own {s : St} {t : Nat} (E sz : Nat) (i : Nat) (h : look s.t t = some .nil) (hip : i ≠ pinned) : Gh s (s.new t i (.row E sz []) (.own i)) := fun X a w ⟨μ, C, hi⟩ => hi.nilOwn h hip
theorem VC_sound {X : Ctx} {ow : List Nat} {kp : List (Nat × Keep)} (hm : X.P.follows .mixedOrders = true) : ∀ (c : Code) (i : IC) (Q : Exit → St → Prop) (R : Exit → Act → World → Prop) (s : St) (a : Act) (w : World), compC X.P X.nt ow kp c = some i → VC ⟨X.P, X.G⟩ i Q s → Inv X s a w →
    (∀ e s' a' w', Inv X s' a' w' → Q e s' → R e a' w') → c.wp X.P R a w := by
  intro c
  induction c with
  | skip =>
    intro i Q R s a w hc hv hi hR
    simp only [compC, Option.some.injEq] at hc; subst hc
    exact wp_skip (hR _ _ _ _ hi hv)
  | region id ops dr =>
    intro i Q R s a w hc hv hi hR
    simp only [compC] at hc
    split at hc
    · rename_i l hl
      split at hc
      · cases hc
      · rename_i ho
        injection hc with hc; subst hc
        cases dr with
        | false => exact wp_region_list (ER_sound _ 0 l _ s a w hl hv hi fun s' a' w' h1 h2 => hR _ _ _ _ (h1.keep _ _) h2)
        | true => exact ERD_sound hm hl (by simpa using ho) hv.1 hv.2 hi fun s' a' w' h1 h2 => hR _ _ _ _ (h1.keep _ _) h2
    · cases hc
  | seq a b iha ihb =>
    intro i Q R s ac w hc hv hi hR
    simp only [compC] at hc
    split at hc
    · rename_i ia ib ha hb
      injection hc with hc; subst hc
      refine wp_seq (iha _ _ _ s ac w ha hv hi fun e s' a' w' h1 h2 => ?_)
      cases e with
      | normal => exact ihb _ _ _ s' a' w' hb h2 h1 hR
      | exit => exact hR _ _ _ _ h1 h2
      | goto => exact hR _ _ _ _ h1 h2
      | ret => exact hR _ _ _ _ h1 h2
      | panic => exact hR _ _ _ _ h1 h2
      | outgrown => exact hR _ _ _ _ h1 h2
    · cases hc
  | cond x a b iha ihb =>
    intro i Q R s ac w hc hv hi hR
    simp only [compC] at hc
    split at hc
    · rename_i ix ia ib hx ha hb
      injection hc with hc; subst hc
      simp only [VC] at hv
      split at hv
      · rename_i c hcv
        obtain ⟨μ, C, hi0⟩ := hi
        have := ((hi0.know false [ix]).at (by simp) hx hcv).bool_inv
        refine wp_cond this ?_
        split at hv
        · rename_i e; subst e
          exact iha _ _ _ s ac w ha hv ⟨μ, C, hi0⟩ hR
        · rename_i e
          have e : c = false := by simpa using e
          subst e
          exact ihb _ _ _ s ac w hb hv ⟨μ, C, hi0⟩ hR
      · exact hv.elim
    · cases hc
  | block id a ih =>
    intro i Q R s ac w hc hv hi hR
    simp only [compC] at hc
    split at hc
    · rename_i ia ha
      injection hc with hc; subst hc
      refine wp_block (ih _ _ _ s ac w ha hv hi fun e s' a' w' h1 h2 => ?_)
      cases e with
      | normal => exact hR _ _ _ _ h1 h2
      | exit j =>
        simp only [blockQ] at h2
        simp only [Exit.inBlock]
        split at h2
        · rename_i e; rw [if_pos e]; exact hR _ _ _ _ h1 h2
        · rename_i e; rw [if_neg e]; exact hR _ _ _ _ h1 h2
      | goto => exact hR _ _ _ _ h1 h2
      | ret => exact hR _ _ _ _ h1 h2
      | panic => exact hR _ _ _ _ h1 h2
      | outgrown => exact hR _ _ _ _ h1 h2
    · cases hc
  | loop a ih =>
    intro i Q R s ac w hc hv hi hR
    simp only [compC] at hc
    split at hc
    · rename_i ia ha
      injection hc with hc; subst hc
      obtain ⟨I, n, s0, hg, h0, hrd⟩ := hv
      refine wp_loop_ghost (fun n a w => ∃ s, I n s ∧ Inv X s a w) n ⟨s0, h0, hg _ _ _ hi⟩ fun n a w ⟨s, hI, hinv⟩ => ?_
      refine ih _ _ _ s a w ha (hrd n s hI) hinv fun e s' a' w' h1 h2 => ?_
      cases e with
      | normal =>
        obtain ⟨s'', n', h3, h4, h5⟩ := h2
        exact ⟨n', h4, s'', h5, h3 _ _ _ h1⟩
      | exit => exact hR _ _ _ _ h1 h2
      | goto => exact hR _ _ _ _ h1 h2
      | ret => exact hR _ _ _ _ h1 h2
      | panic => exact hR _ _ _ _ h1 h2
      | outgrown => exact hR _ _ _ _ h1 h2
    · cases hc
  | exit id =>
    intro i Q R s a w hc hv hi hR
    simp only [compC, Option.some.injEq] at hc; subst hc
    exact wp_exit (hR _ _ _ _ hi hv)
  | ret =>
    intro i Q R s a w hc hv hi hR
    simp only [compC, Option.some.injEq] at hc; subst hc
    exact wp_ret (hR _ _ _ _ hi hv)
  | _ =>
    intro i Q R s a w hc hv hi hR
    simp [compC] at hc
theorem callK_mono {X : Env} {f : FuncId} {args : List AV} {d : Option Nat} {K K' : St → Prop} {s : St} (hk : ∀ s, K s → K' s) (h : callK X f args d K s) : callK X f args d K' s := by
  rcases h with ⟨r, h1, h2, h3⟩ | ⟨E, sz, xs, t, h1, h2, h3⟩
  · exact .inl ⟨r, h1, h2, hk _ h3⟩
  · exact .inr ⟨E, sz, xs, t, h1, h2, hk _ h3⟩
theorem callD_mono {X : Env} {f : FuncId} {args : List AV} {d : Option Nat} {K K' : St → Prop} {s : St} (hk : ∀ s, K s → K' s) (h : callD X f args d K s) : callD X f args d K' s := by
  obtain ⟨r, h1, h2, h3⟩ := h
  exact ⟨r, h1, h2, hk _ h3⟩
theorem callM_mono {X : Env} {f : FuncId} {i E sz : Nat} {xs args : List AV} {d : Option Nat} {K K' : St → Prop} {s : St} (hk : ∀ s, K s → K' s) (h : callM X f i E sz xs args d K s) : callM X f i E sz xs args d K' s := by
  obtain ⟨r, h1, h2⟩ := h
  exact ⟨r, h1, hk _ h2⟩
theorem rawK_mono {X : Env} {ro : Oper} {K K' : St → Prop} {s : St} (hk : ∀ s, K s → K' s) (h : rawK X ro K s) : rawK X ro K' s := fun Y a w Q h1 h2 h3 h4 =>
  Oper.wp_mono (fun a' w' ⟨s', h5, h6⟩ => ⟨s', h5, hk _ h6⟩) (h Y a w Q h1 h2 h3 h4)
theorem E1_mono {X : Env} {dr : Bool} {o : IOper} {K K' : St → Prop} {s : St} (hk : ∀ s, K s → K' s) (h : E1 X dr o K s) : E1 X dr o K' s := by
  obtain ⟨d, op, g, hh⟩ := o
  simp only [E1] at h ⊢
  generalize (if dr = true then s else s.norm op.vals) = s' at h ⊢
  cases op <;> simp only at h ⊢
  all_goals
    repeat' split at h
    all_goals first
      | exact h.elim
      | exact hk _ h
      | exact ⟨h.1, hk _ h.2⟩
      | exact rawK_mono hk h
      | exact callK_mono hk h
      | exact ⟨h.1, callK_mono hk h.2⟩
      | exact ⟨h.1, callM_mono hk h.2⟩
      | exact callD_mono hk h
      | exact ⟨h.1, callD_mono hk h.2⟩
      | (rw [if_pos ‹_›]; exact ⟨h.1, hk _ h.2⟩)
      | (rw [if_neg ‹_›]; exact hk _ h)
theorem E1D_mono {X : Env} {o : IOper} {K K' : St → Prop} {s : St} (hk : ∀ s, K s → K' s) (h : E1D X o K s) : E1D X o K' s := by
  obtain ⟨d, op, g, hh⟩ := o
  simp only [E1D] at h ⊢
  cases op <;> simp only at h ⊢
  all_goals
    repeat' split at h
    all_goals first
      | exact h.elim
      | exact hk _ h
      | exact ⟨h.1, hk _ h.2⟩
      | exact callK_mono hk h
      | exact ⟨h.1, callK_mono hk h.2⟩
      | exact ⟨h.1, callM_mono hk h.2⟩
      | exact callD_mono hk h
      | exact ⟨h.1, callD_mono hk h.2⟩
theorem ER_mono {X : Env} {dr : Bool} : ∀ {os : List IOper} {K K' : St → Prop} {s : St} (_ : ∀ s, K s → K' s) (_ : ER X dr os K s), ER X dr os K' s
  | [], K, K', s, hk, h => hk _ h
  | o :: os, K, K', s, hk, h => by
    simp only [ER] at h ⊢
    split at h
    · rename_i e; (try simp only [e]); exact E1_mono (fun s' h' => ER_mono hk h') h
    · rename_i g want e
      (try simp only [e])
      split at h
      · rename_i b hb
        (try simp only [hb])
        split at h
        · rename_i e2; rw [if_pos e2]; exact E1_mono (fun s' h' => ER_mono hk h') h
        · rename_i e2; rw [if_neg e2]; exact ER_mono hk h
      · rename_i hb
        (try simp only [hb])
        exact ER_mono hk h
      · exact h.elim
theorem ERD_mono {X : Env} : ∀ {os : List IOper} {K K' : St → Prop} {s : St} (_ : ∀ s, K s → K' s) (_ : ERD X os K s), ERD X os K' s
  | [], K, K', s, hk, h => hk _ h
  | o :: os, K, K', s, hk, h => by
    simp only [ERD] at h ⊢
    split at h
    · rename_i e; (try simp only [e]); exact E1D_mono (fun s' h' => ERD_mono hk h') h
    · rename_i g want e
      (try simp only [e])
      split at h
      · rename_i b hb
        (try simp only [hb])
        split at h
        · rename_i e2; rw [if_pos e2]; exact E1D_mono (fun s' h' => ERD_mono hk h') h
        · rename_i e2; rw [if_neg e2]; exact ERD_mono hk h
      · rename_i hb
        (try simp only [hb])
        exact ERD_mono hk h
      · exact h.elim
theorem thenQ_mono {K K' : St → Prop} {Q Q' : Exit → St → Prop} (hk : ∀ s, K s → K' s) (hq : ∀ e s, Q e s → Q' e s) (e : Exit) (s : St) (h : thenQ K Q e s) : thenQ K' Q' e s := by
  cases e <;> first | exact hk _ h | exact hq _ _ h
theorem blockQ_mono {i : Nat} {Q Q' : Exit → St → Prop} (hq : ∀ e s, Q e s → Q' e s) (e : Exit) (s : St) (h : blockQ i Q e s) : blockQ i Q' e s := by
  cases e
  case exit j =>
    simp only [blockQ] at h ⊢
    split at h
    · rename_i e; rw [if_pos e]; exact hq _ _ h
    · rename_i e; rw [if_neg e]; exact hq _ _ h
  all_goals exact hq _ _ h
theorem VC.mono {X : Env} : ∀ {i : IC} {Q Q' : Exit → St → Prop} {s : St} (_ : ∀ e s, Q e s → Q' e s) (_ : VC X i Q s), VC X i Q' s
  | .skip, Q, Q', s, hq, h => hq _ _ h
  | .reg ops false kt ko, Q, Q', s, hq, h => ER_mono (fun _ h' => hq _ _ h') h
  | .reg ops true kt ko, Q, Q', s, hq, h => ⟨h.1, ERD_mono (fun _ h' => hq _ _ h') h.2⟩
  | .seq a b, Q, Q', s, hq, h => VC.mono (i := a) (thenQ_mono (fun _ h' => VC.mono (i := b) hq h') hq) h
  | .cond x a b, Q, Q', s, hq, h => by
    simp only [VC] at h ⊢
    split at h
    · rename_i c hc
      split at h
      · rename_i e; (try rw [if_pos e]); exact VC.mono (i := a) hq h
      · rename_i e; (try rw [if_neg e]); exact VC.mono (i := b) hq h
    · exact h.elim
  | .block i a, Q, Q', s, hq, h => VC.mono (i := a) (blockQ_mono hq) h
  | .loop a, Q, Q', s, hq, h => by
    obtain ⟨I, n, s0, h1, h2, h3⟩ := h
    exact ⟨I, n, s0, h1, h2, fun n s hI => VC.mono (i := a) (thenQ_mono (fun _ h' => h') hq) (h3 n s hI)⟩
  | .exit i, Q, Q', s, hq, h => hq _ _ h
  | .ret, Q, Q', s, hq, h => hq _ _ h
def argT : Nat → List AV → List (Nat × AV)
  | _, [] => []
  | k, v :: vs => (k, v) :: argT (k + 1) vs
def resM (P : Program) : List ResultVar → Option (List (Nat × Option (Option Nat)))
  | [] => some []
  | .tmp t :: rs => (resM P rs).map ((t, none) :: ·)
  | .cell a T :: rs => match aggOf P T, resM P rs with
    | some n, some l => some ((a, some n) :: l)
    | _, _ => none
def resOpds (l : List (Nat × Option (Option Nat))) : List Opd := l.map fun p => .t p.1
def retV (s : St) : List (Nat × Option (Option Nat)) → Option (List AV)
  | [] => some []
  | (t, none) :: l => match look s.t t, retV s l with
    | some v, some vs => if v.plain = true then some (v :: vs) else none
    | _, _ => none
  | (a, some n) :: l => match look s.t a, retV s l with
    | some (.box i off), some vs => match look s.o i with
      | some (.box _ cs) => (cut cs off n).map (· :: vs)
      | _ => none
    | _, _ => none
def tupV : List AV → AV
  | [v] => v
  | vs => .tup vs
def retQ (l : List (Nat × Option (Option Nat))) (r : AV) : Exit → St → Prop
  | .ret, s => (retV (s.norm (resOpds l)) l).map tupV = some r
  | .normal, s => (retV (s.norm (resOpds l)) l).map tupV = some r
  | _, _ => False
section
variable {X : Ctx} {a : Act} {w : World} {μ : Nat → Value} {C : Nat → Nat → Prop}
theorem look_argT {C : Nat → Nat → Prop} {w : World} : ∀ {vs : List AV} {us : List Value} {k t : Nat} {v : AV}, RelL C w vs us → look (argT k vs) t = some v → k ≤ t ∧ ∃ u, us[t - k]? = some u ∧ Rel C w v u
  | [], us, k, t, v, h, hl => by simp [argT, look] at hl
  | x :: vs, us, k, t, v, h, hl => by
    obtain ⟨u, us', rfl, h1, h2⟩ := h.cons_inv
    simp only [argT, look] at hl
    split at hl
    · rename_i e; subst e
      injection hl with hl; subst hl
      exact ⟨Nat.le_refl _, u, by simp, h1⟩
    · obtain ⟨h3, u', h4, h5⟩ := look_argT h2 hl
      refine ⟨by omega, u', ?_, h5⟩
      rw [show t - k = (t - (k + 1)) + 1 by omega]
      simpa using h4
theorem ret_sound {s : St} (h : InvAt X μ C (look s.t) (look s.o) a w) : ∀ (rs : List ResultVar) (l : List (Nat × Option (Option Nat))) (vs : List AV), resM X.P rs = some l → retV s l = some vs →
    ∃ us : List Value, Sem.run X.P (rs.mapM (fun (r : ResultVar) => (match r with
      | .tmp t => pure (a.tmps.getD t undef)
      | .cell c t => do loadVar t (← asAddr (a.tmps.getD c undef)) : Sem Value))) w = Result.ok us w ∧ RelL C w vs us
  | [], l, vs, hr, hv => by
    simp only [resM, Option.some.injEq] at hr; subst hr
    simp only [retV, Option.some.injEq] at hv; subst hv
    exact ⟨[], by simp, RelL.nil _ _⟩
  | .tmp t :: rs, l, vs, hr, hv => by
    simp only [resM, Option.map_eq_some_iff] at hr
    obtain ⟨l', hl', rfl⟩ := hr
    simp only [retV] at hv
    split at hv
    · rename_i v vs' ht hvs
      split at hv
      · rename_i hp
        injection hv with hv; subst hv
        obtain ⟨us, h1, h2⟩ := ret_sound h rs l' vs' hl' hvs
        obtain ⟨u, hu, hrel⟩ := h.tm t v ht
        refine ⟨u :: us, ?_, RelL.cons (hrel.rel hp) h2⟩
        have hgd : a.tmps.getD t undef = u := by simp only [Array.getD_eq_getD_getElem?, hu, Option.getD_some]
        simp only [List.mapM_cons, Sem.run_bind, Sem.run_pure, Result.andThen_ok, h1, hgd]
      · cases hv
    · cases hv
  | .cell c T :: rs, l, vs, hr, hv => by
    simp only [resM] at hr
    split at hr
    · rename_i n l' hn hl'
      injection hr with hr; subst hr
      simp only [retV] at hv
      split at hv
      · rename_i i off vs' ht hvs
        split at hv
        · rename_i Ty cs hob
          simp only [Option.map_eq_some_iff] at hv
          obtain ⟨v, hcut, rfl⟩ := hv
          obtain ⟨us, h1, h2⟩ := ret_sound h rs l' vs' hl' hvs
          obtain ⟨u, hu, g, hg, rfl⟩ := h.tm c _ ht
          obtain ⟨g', us', hg', hb, hh, hr, ho, _⟩ := h.ob i _ hob
          rw [hg] at hg'
          injection hg' with hg'; injection hg' with hg'; injection hg' with hg'; subst hg'
          obtain ⟨x, hx, hrel⟩ := run_load_cut (b := g) hn hr ho (box_cells hh) hcut
          refine ⟨x :: us, ?_, RelL.cons hrel h2⟩
          have hx' : (loadVar T ⟨g, off, none⟩).run X.P w = .ok x w := by simpa [Instr.loadAt, Instr.sureAddr] using hx
          have hgd : a.tmps.getD c undef = .pointer (some ⟨g, off, none⟩) := by simp only [Array.getD_eq_getD_getElem?, hu, Option.getD_some]
          have hasA : ∀ A : Addr, asAddr (.pointer (some A)) = pure A := fun _ => rfl
          simp only [List.mapM_cons, Sem.run_bind, Sem.run_pure, Result.andThen_ok, h1, hgd, hasA, hx']
        · cases hv
      · cases hv
    · cases hr
theorem con_of {P : Program} {G : List (Nat × AV)} {f : FuncId} {fn : Func} {c : Code} {nt : Nat} {ow : List Nat} {kp : List (Nat × Keep)} {ic : IC} {l : List (Nat × Option (Option Nat))} {args : List AV} {r : AV} (hm : P.follows .mixedOrders = true)
    (hf : P.funcs[f]? = some fn) (hb : fn.body = some c) (hn : fn.ntmps = nt) (hr : resM P fn.results.toList = some l) (hc : compC P nt ow kp c = some ic) (ha : args.length ≤ nt) (hnb : nt ≤ pinned) (h : VC ⟨P, G⟩ ic (retQ l r) ⟨argT 0 args, []⟩) : Con P G f args r := by
  intro w C us hC hG hrel
  refine calls_of_wp hf hb ?_
  subst hn
  have hsz : us.size = args.length := by have := hrel.1; simpa using this.symm
  have hinv : Inv ⟨P, G, w, C, fn.ntmps, fun k => w.heap.size ≤ k, none⟩ ⟨argT 0 args, []⟩ { tmps := us ++ Array.replicate (fn.ntmps - us.size) undef, defers := [] } w := by
    refine ⟨fun _ => undef, C, ⟨fun t v ht => ?_, fun i b hi => by simp [look] at hi, fun i j b c hi => by simp [look] at hi, fun b o hc => ⟨hC b o hc, .inl hc⟩, fun _ _ h => h, hG, ⟨rfl, rfl, rfl, Nat.le_refl _, fun _ _ => rfl⟩, ?_, rfl, fun _ h => h, fun _ h => (by cases h), hnb⟩⟩
    · obtain ⟨_, u, hu, hr⟩ := look_argT hrel ht
      refine ⟨u, ?_, .of_rel hr⟩
      simp only [Nat.sub_zero] at hu
      have hlt : t < us.size := by have := (List.getElem?_eq_some_iff.1 hu).1; simpa using this
      rw [Array.getElem?_append_left hlt]
      simpa using hu
    · simp only [Array.size_append, Array.size_replicate]; omega
  refine VC_sound (X := ⟨P, G, w, C, fn.ntmps, fun k => w.heap.size ≤ k, none⟩) hm c ic _ _ _ _ w hc h hinv fun e s' a' w' h1 h2 => ?_
  have fin : (retV (s'.norm (resOpds l)) l).map tupV = some r → a'.defers = [] ∧ ∃ v, (results fn a'.tmps).run P w' = .ok v w' ∧ ∃ u C', Ending.returned v = .returned u ∧ Below w.heap.size w w' ∧ (∀ b o, C b o → C' b o) ∧ (∀ b o, C' b o → b < w'.heap.size ∧ (C b o ∨ w.heap.size ≤ b)) ∧ Rel C' w' r u := by
    intro hret
    obtain ⟨vs, hvs, rfl⟩ := Option.map_eq_some_iff.1 hret
    obtain ⟨μ', C', h1⟩ := h1.norm (resOpds l)
    obtain ⟨us', hrun, hrl⟩ := ret_sound h1 fn.results.toList l vs hr hvs
    refine ⟨h1.df, ?_⟩
    have hrun' : (results fn a'.tmps).run P w' = .ok (if h : us'.toArray.size = 1 then us'.toArray[0] else .tuple us'.toArray) w' := by
      unfold results
      rw [show fn.results = fn.results.toList.toArray by simp, List.mapM_toArray]
      simp only [Sem.run_bind, map_eq_pure_bind, bind_assoc, pure_bind]
      refine (congrArg (fun r => Result.andThen r _) hrun).trans ?_
      simp only [Result.andThen_ok, Sem.run_pure]
    refine ⟨_, hrun', _, C', rfl, ⟨h1.be.os, h1.be.tape, h1.be.output, h1.be.size, fun k hk => h1.be.block k (Nat.not_le.2 hk)⟩, h1.c0, h1.cw, ?_⟩
    have hl := hrl.1
    match vs, us', hl, hrl with
    | [v], [u], _, hrl => exact hrl.2 0 v u rfl rfl
    | [], [], _, hrl => exact .tup _ _ hrl.1 hrl.2
    | v :: v' :: vs, u :: u' :: us', _, hrl =>
      have : (if h : (u :: u' :: us').toArray.size = 1 then (u :: u' :: us').toArray[0] else Value.tuple (u :: u' :: us').toArray) = .tuple (u :: u' :: us').toArray := by
        rw [dif_neg (by simp)]
      rw [this]
      exact .tup _ _ hrl.1 hrl.2
  cases e with
  | normal => exact fin h2
  | ret => exact fin h2
  | _ => exact h2.elim
def retM (E sz : Nat) (xs : List AV) : Exit → St → Prop
  | .ret, s => look s.o pinned = some (.row E sz xs)
  | .normal, s => look s.o pinned = some (.row E sz xs)
  | _, _ => False
theorem conM_of {P : Program} {G : List (Nat × AV)} {f : FuncId} {fn : Func} {c : Code} {nt : Nat} {ow : List Nat} {kp : List (Nat × Keep)} {ic : IC} {E sz : Nat} {xs args xs' : List AV} (hm : P.follows .mixedOrders = true)
    (hf : P.funcs[f]? = some fn) (hb : fn.body = some c) (hn : fn.ntmps = nt) (hr : fn.results = #[]) (hc : compC P nt ow kp c = some ic) (ha : args.length + 1 ≤ nt) (hnb : nt ≤ pinned) (h : VC ⟨P, G⟩ ic (retM E sz xs') ⟨(0, .own pinned) :: argT 1 args, [(pinned, .row E sz xs)]⟩) : ConM P G f E sz xs args xs' := by
  intro w C own m us hC hG hown hob hrel
  refine calls_of_wp hf hb ?_
  subst hn
  have hlen : us.length = args.length := hrel.1.symm
  have hlt := hob.lt
  have hsl : ∃ A n c, m = .slice A n c := by
    obtain ⟨us', _, _, hro, _⟩ := hob
    rcases hro.2 with ⟨he, _⟩ | ⟨g, cap, cur, he, _⟩
    · exact ⟨_, _, _, he⟩
    · exact ⟨_, _, _, he⟩
  have hinv : Inv ⟨P, G, w, C, fn.ntmps, fun k => w.heap.size ≤ k ∨ mblk m = some k, some m⟩ ⟨(0, .own pinned) :: argT 1 args, [(pinned, .row E sz xs)]⟩ { tmps := (m :: us).toArray ++ Array.replicate (fn.ntmps - (m :: us).toArray.size) undef, defers := [] } w := by
    refine ⟨fun _ => m, C, ⟨fun t v ht => ?_, fun i b hi => ?_, fun i j b c hi hj hne => ?_, fun b o hc => ⟨hC b o hc, .inl hc⟩, fun _ _ h => h, hG, ⟨rfl, rfl, rfl, Nat.le_refl _, fun _ _ => rfl⟩, ?_, rfl, fun _ h => .inl h, fun _ h => (by injection h), hnb⟩⟩
    · simp only [look] at ht
      split at ht
      · rename_i e; subst e
        injection ht with ht; subst ht
        exact ⟨m, by rw [Array.getElem?_append_left (by simp)]; simp, rfl, hsl⟩
      · obtain ⟨h1, u, hu, hr⟩ := look_argT hrel ht
        refine ⟨u, ?_, .of_rel hr⟩
        have hlt' : t - 1 < us.length := (List.getElem?_eq_some_iff.1 hu).1
        rw [Array.getElem?_append_left (by simp; omega)]
        rw [List.getElem?_toArray, show t = (t - 1) + 1 by omega]
        simpa using hu
    · simp only [look] at hi
      split at hi
      · injection hi with hi; subst hi
        obtain ⟨us', h1, h2, h3, h4⟩ := hob
        exact ⟨us', h1, h2, h3, fun g hg => ⟨.inr hg, (h4 g hg).2⟩⟩
      · cases hi
    · simp only [look] at hi hj
      split at hi
      · split at hj
        · rename_i e1 e2; exact absurd (e1.symm.trans e2) hne
        · cases hj
      · cases hi
    · simp; omega
  refine VC_sound (X := ⟨P, G, w, C, fn.ntmps, fun k => w.heap.size ≤ k ∨ mblk m = some k, some m⟩) hm c ic _ _ _ _ w hc h hinv fun e s' a' w' h1 h2 => ?_
  have fin : look s'.o pinned = some (.row E sz xs') → a'.defers = [] ∧ ∃ v, (results fn a'.tmps).run P w' = .ok v w' ∧ ∃ C', Ending.returned v = .returned (.tuple #[]) ∧ w'.os = w.os ∧ w'.tape = w.tape ∧ w'.output = w.output ∧ w.heap.size ≤ w'.heap.size ∧ (∀ k, k < w.heap.size → mblk m ≠ some k → w'.heap[k]? = w.heap[k]?) ∧
      (∀ b o, C b o → C' b o) ∧ (∀ b o, C' b o → b < w'.heap.size ∧ (C b o ∨ w.heap.size ≤ b)) ∧ ObRel C' w' own (.row E sz xs') m := by
    intro hret
    obtain ⟨μ, C', h1⟩ := h1
    have ho := h1.ob pinned _ hret
    rw [h1.pn m rfl] at ho
    refine ⟨h1.df, .tuple #[], ?_, C', rfl, h1.be.os, h1.be.tape, h1.be.output, h1.be.size, fun k hk hne => h1.be.block k fun hk2 => ?_, h1.c0, fun b o hc => ⟨(h1.cw b o hc).1, ?_⟩, ?_⟩
    · unfold results
      simp [hr]
    · rcases hk2 with hk2 | hk2
      · exact absurd hk (Nat.not_lt.2 hk2)
      · exact hne hk2
    · rcases (h1.cw b o hc).2 with h9 | h9 | h9
      · exact .inl h9
      · exact .inr h9
      · exact absurd hc ((ho.lt b h9).2.2 o)
    · obtain ⟨us', q1, q2, q3, q4⟩ := ho
      exact ⟨us', q1, q2, q3, fun g hg => ⟨(hlt g hg).1, (q4 g hg).2⟩⟩
  cases e with
  | normal => exact fin h2
  | ret => exact fin h2
  | _ => exact h2.elim
end
end Go.Proofs.YtgehlcgjchfibaaGreatDoor.F
namespace Go.Proofs.YtgehlcgjchfibaaGreatDoor.F
open Go Go.RowKit Go.Proofs
def gs : List (Nat × AV) := [(0, .agg [.int .u32 1, .int .u32 10, .int .u32 100, .int .u32 1000, .int .u32 10000, .int .u32 100000, .int .u32 1000000, .int .u32 10000000, .int .u32 100000000]), (1, .agg [.fn 174, .fn 175, .fn 176, .fn 177, .fn 178, .fn 179, .fn 180, .fn 181])]
noncomputable def e0 : Env := ⟨Tryz.prog, gs⟩
theorem g0 : look e0.G 0 = some (.agg [.int .u32 1, .int .u32 10, .int .u32 100, .int .u32 1000, .int .u32 10000, .int .u32 100000, .int .u32 1000000, .int .u32 10000000, .int .u32 100000000]) := rfl
theorem g1 : look e0.G 1 = some (.agg [.fn 174, .fn 175, .fn 176, .fn 177, .fn 178, .fn 179, .fn 180, .fn 181]) := rfl
noncomputable abbrev Fn (n : Nat) (args : List AV) (r : AV) : Prop := Con Tryz.prog gs n args r
theorem mixed : Tryz.prog.follows .mixedOrders = true := by kernel_rfl
theorem fn_of {f : FuncId} {fn : Func} {nt : Nat} {ow : List Nat} {kp : List (Nat × Keep)} {ic : IC} {l : List (Nat × Option (Option Nat))} {args : List AV} {r : AV}
    (hf : Tryz.prog.funcs[f]? = some fn) (hn : fn.ntmps = nt) (hr : resM Tryz.prog fn.results.toList = some l) (hc : (fn.body.bind fun c => compC Tryz.prog nt ow kp c) = some ic) (ha : args.length ≤ nt) (hnb : nt ≤ pinned) (h : VC e0 ic (retQ l r) ⟨argT 0 args, []⟩) : Fn f args r := by
  cases hb : fn.body with
  | none => rw [hb] at hc; simp at hc
  | some c => rw [hb] at hc; exact con_of mixed hf hb hn hr hc ha hnb h
theorem fnM_of {f : FuncId} {fn : Func} {nt : Nat} {ow : List Nat} {kp : List (Nat × Keep)} {ic : IC} {E sz : Nat} {xs args xs' : List AV}
    (hf : Tryz.prog.funcs[f]? = some fn) (hn : fn.ntmps = nt) (hr : fn.results = #[]) (hc : (fn.body.bind fun c => compC Tryz.prog nt ow kp c) = some ic) (ha : args.length + 1 ≤ nt) (hnb : nt ≤ pinned) (h : VC e0 ic (retM E sz xs') ⟨(0, .own pinned) :: argT 1 args, [(pinned, .row E sz xs)]⟩) : ConM Tryz.prog gs f E sz xs args xs' := by
  cases hb : fn.body with
  | none => rw [hb] at hc; simp at hc
  | some c => rw [hb] at hc; exact conM_of mixed hf hb hn hr hc ha hnb h
theorem callK_intro {X : Env} {f : FuncId} {args : List AV} {d : Option Nat} {K : St → Prop} {s : St} (r : AV) (hc : Con X.P X.G f args r) (hp : r.plain = true) (hk : K (s.putD d r)) : callK X f args d K s := .inl ⟨r, hp, hc, hk⟩
theorem callF {f : FuncId} {args : List AV} {d : Option Nat} {K : St → Prop} {s : St} {r : AV} (hc : Fn f args r) (hp : r.plain = true) (hk : K (s.putD d r)) : callK e0 f args d K s := .inl ⟨r, hp, hc, hk⟩
theorem callFD {f : FuncId} {args : List AV} {d : Option Nat} {K : St → Prop} {s : St} {r : AV} (hc : Fn f args r) (hp : r.plain = true) (hk : K (s.putD d r)) : callD e0 f args d K s := ⟨r, hp, hc, hk⟩
@[congr] theorem callK_cg {X : Env} {f : FuncId} {args args' : List AV} {d : Option Nat} {K : St → Prop} {s s' : St} {p : Prop} (ht : ((0 : Nat) = 0) = p) (h : args = args') (h' : s = s') : callK X f args d K s = callK X f args' d K s' := by rw [h, h']
@[congr] theorem callD_cg {X : Env} {f : FuncId} {args args' : List AV} {d : Option Nat} {K : St → Prop} {s s' : St} {p : Prop} (ht : ((0 : Nat) = 0) = p) (h : args = args') (h' : s = s') : callD X f args d K s = callD X f args' d K s' := by rw [h, h']
@[congr] theorem callM_cg {X : Env} {f : FuncId} {i E sz : Nat} {xs xs' args args' : List AV} {d : Option Nat} {K : St → Prop} {s s' : St} {p : Prop} (ht : ((0 : Nat) = 0) = p) (h0 : xs = xs') (h : args = args') (h' : s = s') : callM X f i E sz xs args d K s = callM X f i E sz xs' args' d K s' := by rw [h0, h, h']
@[congr] theorem ER_cg {X : Env} {dr : Bool} {os : List IOper} {K : St → Prop} {s s' : St} {p : Prop} (ht : ((0 : Nat) = 0) = p) (h' : s = s') : ER X dr os K s = ER X dr os K s' := by rw [h']
@[congr] theorem ERD_cg {X : Env} {os : List IOper} {K : St → Prop} {s s' : St} {p : Prop} (ht : ((0 : Nat) = 0) = p) (h' : s = s') : ERD X os K s = ERD X os K s' := by rw [h']
@[congr] theorem E1_cg {X : Env} {dr : Bool} {o : IOper} {K : St → Prop} {s s' : St} {p : Prop} (ht : ((0 : Nat) = 0) = p) (h' : s = s') : E1 X dr o K s = E1 X dr o K s' := by rw [h']
@[congr] theorem E1D_cg {X : Env} {o : IOper} {K : St → Prop} {s s' : St} {p : Prop} (ht : ((0 : Nat) = 0) = p) (h' : s = s') : E1D X o K s = E1D X o K s' := by rw [h']
@[congr] theorem VC_cg {X : Env} {i i2 : IC} {Q : Exit → St → Prop} {s s' : St} {p : Prop} (ht : ((0 : Nat) = 0) = p) (hi : i = i2) (h' : s = s') : VC X i Q s = VC X i2 Q s' := by rw [hi, h']
@[congr] theorem thenQ_cg {K : St → Prop} {Q : Exit → St → Prop} {e : Exit} {s s' : St} {p : Prop} (ht : ((0 : Nat) = 0) = p) (h' : s = s') : thenQ K Q e s = thenQ K Q e s' := by rw [h']
@[congr] theorem blockQ_cg {i : Nat} {Q : Exit → St → Prop} {e : Exit} {s s' : St} {p : Prop} (ht : ((0 : Nat) = 0) = p) (h' : s = s') : blockQ i Q e s = blockQ i Q e s' := by rw [h']
@[congr] theorem kpQ_cg {Q : Exit → St → Prop} {kt ko : List Nat} {s s' : St} {p : Prop} (ht : ((0 : Nat) = 0) = p) (h' : s = s') : kpQ Q kt ko s = kpQ Q kt ko s' := by rw [h']
def grd (r : Option AV) (w : Bool) (A B : Prop) : Prop := match r with
  | some (.bool b) => if b = w then A else B
  | some (.tup []) => B
  | _ => False
def cnd (r : Option AV) (A B : Prop) : Prop := match r with
  | some (.bool c) => if c = true then A else B
  | _ => False
@[congr] theorem grd_cg {r r' : Option AV} {w : Bool} {A B : Prop} {p : Prop} (ht : ((0 : Nat) = 0) = p) (h : r = r') : grd r w A B = grd r' w A B := by rw [h]
@[congr] theorem cnd_cg {r r' : Option AV} {A B : Prop} {p : Prop} (ht : ((0 : Nat) = 0) = p) (h : r = r') : cnd r A B = cnd r' A B := by rw [h]
theorem grd_tt (A B : Prop) : grd (some (.bool true)) true A B = A := rfl
theorem grd_tf (A B : Prop) : grd (some (.bool true)) false A B = B := rfl
theorem grd_ft (A B : Prop) : grd (some (.bool false)) true A B = B := rfl
theorem grd_ff (A B : Prop) : grd (some (.bool false)) false A B = A := rfl
theorem grd_no (w : Bool) (A B : Prop) : grd (some (.tup [])) w A B = B := rfl
theorem cnd_t (A B : Prop) : cnd (some (.bool true)) A B = A := rfl
theorem cnd_f (A B : Prop) : cnd (some (.bool false)) A B = B := rfl
theorem cnd_if (c : Bool) (A B : Prop) : cnd (some (.bool c)) A B = if c = true then A else B := rfl
theorem VC_skip {X : Env} {Q : Exit → St → Prop} {s : St} : VC X .skip Q s = Q .normal s := rfl
theorem VC_reg0 {X : Env} {ops : List IOper} {kt ko : List Nat} {Q : Exit → St → Prop} {s : St} : VC X (.reg ops false kt ko) Q s = ER X false ops (kpQ Q kt ko) s := rfl
theorem VC_reg1 {X : Env} {ops : List IOper} {kt ko : List Nat} {Q : Exit → St → Prop} {s : St} : VC X (.reg ops true kt ko) Q s = (fresh s ops = true ∧ ERD X ops (kpQ Q kt ko) s) := rfl
theorem VC_seq {X : Env} {a b : IC} {Q : Exit → St → Prop} {s : St} : VC X (.seq a b) Q s = VC X a (thenQ (VC X b Q) Q) s := rfl
theorem VC_cond {X : Env} {x : Opd} {a b : IC} {Q : Exit → St → Prop} {s : St} : VC X (.cond x a b) Q s = cnd (opd X.G s x) (VC X a Q s) (VC X b Q s) := rfl
theorem VC_block {X : Env} {i : Nat} {a : IC} {Q : Exit → St → Prop} {s : St} : VC X (.block i a) Q s = VC X a (blockQ i Q) s := rfl
theorem VC_loop {X : Env} {a : IC} {Q : Exit → St → Prop} {s : St} : VC X (.loop a) Q s = (∃ (I : Nat → St → Prop) (n : Nat) (s0 : St), Gh s s0 ∧ I n s0 ∧ ∀ n s, I n s → VC X a (thenQ (backQ I n) Q) s) := rfl
theorem VC_exit {X : Env} {i : Nat} {Q : Exit → St → Prop} {s : St} : VC X (.exit i) Q s = Q (.exit i) s := rfl
theorem VC_ret {X : Env} {Q : Exit → St → Prop} {s : St} : VC X .ret Q s = Q .ret s := rfl
theorem ER_nil {X : Env} {dr : Bool} {K : St → Prop} {s : St} : ER X dr [] K s = K s := rfl
theorem ER_op {X : Env} {dr : Bool} {d : Option Nat} {op : IOp} {h : Hint} {os : List IOper} {K : St → Prop} {s : St} : ER X dr (⟨d, op, none, h⟩ :: os) K s = E1 X dr ⟨d, op, none, h⟩ (ER X dr os K) s := rfl
theorem ER_grd {X : Env} {dr : Bool} {d : Option Nat} {op : IOp} {h : Hint} {g : Nat} {w : Bool} {os : List IOper} {K : St → Prop} {s : St} :
    ER X dr (⟨d, op, some (g, w), h⟩ :: os) K s = grd (look s.t g) w (E1 X dr ⟨d, op, some (g, w), h⟩ (ER X dr os K) s) (ER X dr os K (s.putD d (.tup []))) := rfl
theorem ERD_nil {X : Env} {K : St → Prop} {s : St} : ERD X [] K s = K s := rfl
theorem ERD_op {X : Env} {d : Option Nat} {op : IOp} {h : Hint} {os : List IOper} {K : St → Prop} {s : St} : ERD X (⟨d, op, none, h⟩ :: os) K s = E1D X ⟨d, op, none, h⟩ (ERD X os K) s := rfl
theorem ERD_grd {X : Env} {d : Option Nat} {op : IOp} {h : Hint} {g : Nat} {w : Bool} {os : List IOper} {K : St → Prop} {s : St} :
    ERD X (⟨d, op, some (g, w), h⟩ :: os) K s = grd (look s.t g) w (E1D X ⟨d, op, some (g, w), h⟩ (ERD X os K) s) (ERD X os K (s.putD d (.tup []))) := rfl
theorem look_n {α : Type} (t : Nat) : look ([] : List (Nat × α)) t = none := by simp only [look]
theorem look_c {α : Type} (p : Nat × α) (l : List (Nat × α)) (t : Nat) : look (p :: l) t = if p.1 = t then some p.2 else look l t := by simp only [look]
theorem opd_t (G : List (Nat × AV)) (s : St) (n : Nat) : opd G s (.t n) = look s.t n := by simp only [opd]
theorem opd_c (G : List (Nat × AV)) (s : St) (v : AV) : opd G s (.c v) = some v := by simp only [opd]
theorem opd_g (G : List (Nat × AV)) (s : St) (n : Nat) : opd G s (.g n) = (look G n).map .ref := by simp only [opd]
end Go.Proofs.YtgehlcgjchfibaaGreatDoor.F
