/-
  No program in sight: a region that draws its order, by an invariant: each operation's step is shown once, whatever has come up before it. No program in sight: a region that draws its order, by what each operation's slot holds. No program in sight: regions by facts: a table of what each slot holds; a step of each kind. No program in sight: what steps of a table's region come to, kind by kind.
-/
import Derived.Test.YtmebmgbjpbapjaaGq
import Derived.Test.YtmebmgbjpbapjaaSo
import Derived.Test.YtmebmgbjpbapjaaSr
import Derived.Shelf.Abstract
namespace Go.Proofs.Ytmebmgbjpbapjaa
open Go.RowKit

theorem filter_lt_gen {α : Type} {l : List α} {p q : α → Bool} (h : ∀ x ∈ l, p x = true → q x = true) {z : α} (hz : z ∈ l) (h1 : q z = true) (h2 : p z = false) : (l.filter p).length < (l.filter q).length := by
  have hle : ∀ l : List α, (∀ x ∈ l, p x = true → q x = true) → (l.filter p).length ≤ (l.filter q).length := by
    intro l
    induction l with
    | nil => intro _; simp
    | cons c l ih =>
      intro h
      have := ih (fun x hx => h x (List.mem_cons_of_mem _ hx))
      cases hp : p c with
      | true => rw [List.filter_cons_of_pos hp, List.filter_cons_of_pos (h c (by simp) hp)]; simpa using this
      | false =>
        rw [List.filter_cons_of_neg (by simp [hp])]
        rw [List.filter_cons]; split <;> simp <;> omega
  induction l with
  | nil => cases hz
  | cons a l ih =>
    rcases List.mem_cons.1 hz with rfl | hz
    · have := hle l (fun x hx => h x (List.mem_cons_of_mem _ hx))
      rw [List.filter_cons_of_neg (by simp [h2]), List.filter_cons_of_pos h1]; simp; omega
    · have := ih (fun x hx => h x (List.mem_cons_of_mem _ hx)) hz
      cases hp : p a with
      | true => rw [List.filter_cons_of_pos hp, List.filter_cons_of_pos (h a (by simp) hp)]; simpa using this
      | false =>
        rw [List.filter_cons_of_neg (by simp [hp])]
        rw [List.filter_cons]; split <;> simp <;> omega

section
variable {P : Program} {ops : Array Oper} {Q : Exit → Act → World → Prop}
/-- Each operation waits only for such as stand ahead of it. -/
def backB (ops : Array Oper) : Bool := (List.range ops.size).all fun i => ((ops[i]?).map (fun o => o.after.all (fun e => decide (e.on < i)))).getD true
/-- What has not come up yet. -/
def unL (n : Nat) (listed : Array Bool) : List Nat := (List.range n).filter (fun i => !listed.getD i true)
theorem all_listed (hb : backB ops = true) {listed : Array Bool} (hs : listed.size = ops.size) (hr : Region.ready .any ops listed = []) : ∀ i, i < ops.size → listed.getD i false = true := by
  intro i
  induction i using Nat.strongRecOn with
  | _ i ih =>
    intro hi
    cases hl : listed.getD i false with
    | true => rfl
    | false =>
      exfalso
      have hlt : listed.getD i true = false := by
        have hsz : i < listed.size := by omega
        simp [hsz] at hl ⊢; exact hl
      have hb2 := List.all_eq_true.1 hb i (List.mem_range.2 hi)
      rw [Array.getElem?_eq_getElem hi] at hb2
      simp only [Option.map_some, Option.getD_some] at hb2
      have : i ∈ Region.ready .any ops listed := by
        unfold Region.ready
        rw [List.mem_filter]
        refine ⟨List.mem_range.2 hi, ?_⟩
        rw [hlt, Array.getElem?_eq_getElem hi]
        simp only [Bool.not_false, Bool.true_and, Option.map_some, Option.getD_some]
        rw [Array.all_eq_true_iff_forall_mem] at hb2 ⊢
        intro e he
        have he2 := of_decide_eq_true (hb2 e he)
        rw [ih e.on he2 (by omega)]
        simp
      rw [hr] at this; cases this
theorem unL_set {listed : Array Bool} (hs : listed.size = ops.size) {i : Nat} (hi : i ∈ Region.ready .any ops listed) : i < ops.size ∧ listed.getD i true = false ∧ (unL ops.size (listed.setIfInBounds i true)).length < (unL ops.size listed).length := by
  unfold Region.ready at hi
  rw [List.mem_filter] at hi
  have h1 := List.mem_range.1 hi.1
  have h2 : listed.getD i true = false := by
    have := hi.2
    simp only [Bool.and_eq_true, Bool.not_eq_true'] at this
    exact this.1
  refine ⟨h1, h2, ?_⟩
  unfold unL
  refine filter_lt_gen (z := i) (fun x hx hp => ?_) hi.1 (by rw [h2]; rfl) ?_
  · by_cases hxi : x = i
    · subst hxi; rw [h2]; rfl
    · rw [getD_set_ne true (Ne.symm hxi)] at hp; exact hp
  · have hsz : i < listed.size := by omega
    simp [hsz]
/-- The law: Inv of what has come up, the frame, the world; one step an operation. -/
theorem wpAnyH_inv {Inv : Array Bool → Act → World → Prop} (hb : backB ops = true)
    (step : ∀ (listed : Array Bool) (a : Act) (w : World) (i : Nat), listed.size = ops.size → i < ops.size → listed.getD i true = false → i ∈ Region.ready .any ops listed → Inv listed a w → ∀ K : Act → World → Prop, (∀ a' w', Inv (listed.setIfInBounds i true) a' w' → K a' w') → wpOp P ops Q i K a w)
    (fin : ∀ (listed : Array Bool) (a : Act) (w : World), (∀ i, i < ops.size → listed.getD i false = true) → Inv listed a w → Q .normal a w) :
    ∀ (fuel : Nat) (listed : Array Bool) (a : Act) (w : World), listed.size = ops.size → (unL ops.size listed).length ≤ fuel → Inv listed a w → wpAnyH P .any ops Q (fun _ => True) fuel listed a w
  | 0, listed, a, w, hs, hu, hI => by
    have hr : Region.ready .any ops listed = [] := by
      rw [List.eq_nil_iff_forall_not_mem]
      intro i hi
      have := (unL_set hs hi).2.2
      omega
    exact ⟨hr, fin listed a w (all_listed hb hs hr) hI⟩
  | fuel + 1, listed, a, w, hs, hu, hI => by
    refine ⟨fun hr => fin listed a w (all_listed hb hs hr) hI, fun i hi => ?_⟩
    obtain ⟨h1, h2, h3⟩ := unL_set hs hi
    exact step listed a w i hs h1 h2 hi hI _ (fun a' w' hI' => ⟨trivial, wpAnyH_inv hb step fin fuel _ a' w' (by simpa using hs) (by omega) hI'⟩)
theorem wp_region_inv {id : Nat} {a : Act} {w : World} {Inv : Array Bool → Act → World → Prop} (hm : P.follows .mixedOrders = true) (hb : backB ops = true)
    (step : ∀ (listed : Array Bool) (a : Act) (w : World) (i : Nat), listed.size = ops.size → i < ops.size → listed.getD i true = false → i ∈ Region.ready .any ops listed → Inv listed a w → ∀ K : Act → World → Prop, (∀ a' w', Inv (listed.setIfInBounds i true) a' w' → K a' w') → wpOp P ops Q i K a w)
    (fin : ∀ (listed : Array Bool) (a : Act) (w : World), (∀ i, i < ops.size → listed.getD i false = true) → Inv listed a w → Q .normal a w)
    (h0 : Inv (Array.replicate ops.size false) a w.drew) : (Code.region id ops true).wp P Q a w :=
  wp_region_held_drew hm (S := fun _ => True) trivial (fun _ => wpAnyH_inv hb step fin _ _ _ _ (by simp) (by
    unfold unL
    exact Nat.le_trans (List.length_filter_le _ _) (by simp)) h0)
end
end Go.Proofs.Ytmebmgbjpbapjaa

namespace Go.Proofs.Ytmebmgbjpbapjaa
open Go.RowKit

section
variable {P : Program} {ops : Array Oper} {Q : Exit → Act → World → Prop}
def dstOf (ops : Array Oper) (i : Nat) : Option Nat := (ops[i]?).bind (·.dst)
/-- No slot is written twice; each is one of n. -/
def dstsB (ops : Array Oper) (n : Nat) : Bool := (List.range ops.size).all fun i => (List.range ops.size).all fun j => i == j || dstOf ops i == none || !(dstOf ops i == dstOf ops j)
def fitB (ops : Array Oper) (n : Nat) : Bool := (List.range ops.size).all fun i => match dstOf ops i with | some d => decide (d < n) | none => true
/-- The frame on the way: as it was, but for the slots of what has come up. -/
structure OnWay (ops : Array Oper) (a0 : Act) (R : Nat → Env → Value → Prop) (e : Env) (listed : Array Bool) (a : Act) : Prop where
  size : a.tmps.size = a0.tmps.size
  defers : a.defers = a0.defers
  same : ∀ k, (∀ i, listed.getD i false = true → dstOf ops i ≠ some k) → a.tmps[k]? = a0.tmps[k]?
  got : ∀ i d, listed.getD i false = true → dstOf ops i = some d → R i e (a.tmps.getD d undef)
theorem OnWay.put {a0 a : Act} {R : Nat → Env → Value → Prop} {e e' : Env} {listed : Array Bool} (h : OnWay ops a0 R e listed a) (hd : dstsB ops a0.tmps.size = true) (hf : fitB ops a0.tmps.size = true) (hm : ∀ i e e' v, e.le e' → R i e v → R i e' v) (hle : e.le e') {i : Nat} (hs : listed.size = ops.size) (hi : i < ops.size) (hl : listed.getD i true = false) {v : Value} (hv : R i e' v) :
    OnWay ops a0 R e' (listed.setIfInBounds i true) (a.put (dstOf ops i) v) := by
  have hsz : i < listed.size := by omega
  have hset : ∀ j, (listed.setIfInBounds i true).getD j false = true ↔ j = i ∨ listed.getD j false = true := by
    intro j
    by_cases hji : j = i
    · subst hji; simp [hsz]
    · rw [getD_set_ne false (Ne.symm hji)]; simp [hji]
  have hdist : ∀ j d, j < ops.size → j ≠ i → dstOf ops i = some d → dstOf ops j ≠ some d := by
    intro j d hj hji h1 h2
    have := List.all_eq_true.1 (List.all_eq_true.1 hd i (List.mem_range.2 hi)) j (List.mem_range.2 hj)
    rw [h1, h2] at this
    simp at this
    exact hji this.symm
  have hjs : ∀ j, listed.getD j false = true → j < ops.size := by
    intro j hj
    rcases Nat.lt_or_ge j ops.size with h | h
    · exact h
    · rw [← hs] at h
      simp [Nat.not_lt.2 h] at hj
  cases hdi : dstOf ops i with
  | none =>
    refine ⟨h.size, h.defers, fun k hk => h.same k (fun j hj => hk j ((hset j).2 (Or.inr hj))), fun j d hj hjd => ?_⟩
    rcases (hset j).1 hj with rfl | hj
    · rw [hdi] at hjd; cases hjd
    · exact hm _ _ _ _ hle (h.got j d hj hjd)
  | some d0 =>
    have hd0 : d0 < a.tmps.size := by
      have := List.all_eq_true.1 hf i (List.mem_range.2 hi)
      rw [hdi] at this
      rw [h.size]; simpa using this
    have hput : (a.put (some d0) v).tmps = a.tmps.setIfInBounds d0 v := rfl
    refine ⟨by rw [hput]; simp [h.size], h.defers, fun k hk => ?_, fun j d hj hjd => ?_⟩
    · have hk0 : d0 ≠ k := fun e => hk i ((hset i).2 (Or.inl rfl)) (by rw [hdi, e])
      rw [hput, Array.getElem?_setIfInBounds_ne hk0]
      exact h.same k (fun j hj => hk j ((hset j).2 (Or.inr hj)))
    · rw [hput]
      rcases (hset j).1 hj with rfl | hj2
      · rw [hdi] at hjd
        cases hjd
        have : (a.tmps.setIfInBounds d0 v).getD d0 undef = v := by simp [hd0]
        rw [this]; exact hv
      · have hji : j ≠ i := fun e => by
          subst e
          have e1 : listed.getD j true = listed.getD j false := by simp [hsz]
          have e2 := hl.symm.trans (e1.trans hj2)
          cases e2
        have hdd : d0 ≠ d := fun e => hdist j d0 (hjs j hj2) hji hdi (by rw [hjd, e])
        have : (a.tmps.setIfInBounds d0 v).getD d undef = a.tmps.getD d undef := by
          rw [Array.getD_eq_getD_getElem?, Array.getD_eq_getD_getElem?, Array.getElem?_setIfInBounds_ne hdd]
        rw [this]
        exact hm _ _ _ _ hle (h.got j d hj2 hjd)
/-- The law. R i: what operation i's slot holds, of what never turns; each operation's step is shown from what the slots of those that it waits for hold. -/
theorem wp_region_facts {id : Nat} {a0 : Act} {w0 : World} {b : Env} {L : List HP} {R : Nat → Env → Value → Prop} (hm : P.follows .mixedOrders = true) (hb : backB ops = true) (hd : dstsB ops a0.tmps.size = true) (hf : fitB ops a0.tmps.size = true)
    (hmono : ∀ i e e' v, e.le e' → R i e v → R i e' v) (h0 : St b L w0)
    (step : ∀ (i : Nat) (o : Oper), ops[i]? = some o → ∀ (a : Act) (w : World) (e : Env), b.le e → Sat e L w → a.tmps.size = a0.tmps.size → (∀ k, (∀ j, dstOf ops j ≠ some k) → a.tmps[k]? = a0.tmps[k]?) →
      (∀ ed ∈ o.after, Region.binds .any ed = true → ∀ d, dstOf ops ed.on = some d → R ed.on e (a.tmps.getD d undef)) →
      ∀ K : Act → World → Prop, (∀ v w' e', e.le e' → Sat e' L w' → R i e' v → K (a.put o.dst v) w') → wpOp P ops Q i K a w)
    (fin : ∀ (a : Act) (w : World) (e : Env), b.le e → Sat e L w → a.tmps.size = a0.tmps.size → a.defers = a0.defers → (∀ k, (∀ j, dstOf ops j ≠ some k) → a.tmps[k]? = a0.tmps[k]?) →
      (∀ i d, i < ops.size → dstOf ops i = some d → R i e (a.tmps.getD d undef)) → Q .normal a w) : (Code.region id ops true).wp P Q a0 w0 := by
  refine wp_region_inv (Inv := fun listed a w => listed.size = ops.size ∧ ∃ e, b.le e ∧ Sat e L w ∧ OnWay ops a0 R e listed a) hm hb ?_ ?_ ?_
  · rintro listed a w i hs hi hl hr ⟨_, e, hle, hsat, hw⟩ K hK
    have ho : ops[i]? = some ops[i] := Array.getElem?_eq_getElem hi
    refine step i ops[i] ho a w e hle hsat hw.size (fun k hk => hw.same k (fun j _ => hk j)) (fun ed hed hbd d hdd => ?_) K (fun v w' e' hle' hsat' hv => ?_)
    · refine hw.got ed.on d ?_ hdd
      unfold Region.ready at hr
      rw [List.mem_filter] at hr
      have h2 := hr.2
      rw [ho] at h2
      simp only [Option.map_some, Option.getD_some, Bool.and_eq_true] at h2
      have h3 := (Array.all_eq_true_iff_forall_mem.1 h2.2) ed hed
      rw [hbd] at h3
      simpa using h3
    · have hdst : dstOf ops i = ops[i].dst := by unfold dstOf; rw [ho]; rfl
      have := hw.put hd hf hmono hle' hs hi hl hv
      rw [hdst] at this
      exact hK _ _ ⟨by simpa using hs, e', hle.trans hle', hsat', this⟩
  · rintro listed a w hall ⟨_, e, hle, hsat, hw⟩
    exact fin a w e hle hsat hw.size hw.defers (fun k hk => hw.same k (fun j _ => hk j)) (fun i d hi hdd => hw.got i d (hall i hi) hdd)
  · obtain ⟨e, hle, hsat⟩ := h0.drew
    refine ⟨by simp, e, hle, hsat, rfl, rfl, fun _ _ => rfl, fun i d hi _ => ?_⟩
    exfalso
    rcases Nat.lt_or_ge i ops.size with h | h
    · simp [h] at hi
    · simp [Nat.not_lt.2 h] at hi
end
end Go.Proofs.Ytmebmgbjpbapjaa

namespace Go.Proofs.Ytmebmgbjpbapjaa
open Go.RowKit

/-- What a slot holds. -/
inductive FK where
  | is (v : Value)
  | strs (l : List Str)
  | parts (l : List (List Str))
  | bools (l : List Bool)
def FK.ok : FK → Env → Value → Prop
  | .is u, _, v => v = u
  | .strs l, e, v => strE.sl e.h v l
  | .parts l, e, v => strE.in.sl e.h v l
  | .bools l, e, v => boolE.sl e.h v l
theorem FK.up {e e' : Env} (hl : e.le e') : ∀ {f : FK} {v : Value}, f.ok e v → f.ok e' v
  | .is _, _, h => h
  | .strs _, _, h => El.sl_up hl.h h
  | .parts _, _, h => El.sl_up hl.h h
  | .bools _, _, h => El.sl_up hl.h h
def RK (tab : List FK) (i : Nat) (e : Env) (v : Value) : Prop := ∀ f, tab[i]? = some f → f.ok e v
theorem RK.up (tab : List FK) : ∀ (i : Nat) (e e' : Env) (v : Value), e.le e' → RK tab i e v → RK tab i e' v := fun _ _ _ _ hl h f hf => FK.up hl (h f hf)
theorem RK.of {tab : List FK} {i : Nat} {e : Env} {v : Value} {f : FK} (hf : tab[i]? = some f) (h : f.ok e v) : RK tab i e v := fun g hg => by
  rw [hf] at hg; cases hg; exact h

section
variable {α : Type} {E : El α} {e b : Env} {L : List HP} {w : World}
theorem St.out_sl {v : Value} {l : List α} (h : St e (HP.sl E v l :: L) w) : ∃ e', e.le e' ∧ Sat e' L w ∧ E.sl e'.h v l := by
  obtain ⟨e', hl, hs⟩ := h
  obtain ⟨_, hm⟩ := hs.mem_p mem0
  exact ⟨e', hl, hs.drop, hm⟩
theorem Sat.in_sl {v : Value} {l : List α} (h : Sat e L w) (hv : E.sl e.h v l) : Sat e (HP.sl E v l :: L) w := h.lay (fun _ => hv)
end

section
variable {P : Program} {ops : Array Oper} {o : Oper} {a : Act} {w : World}
theorem run_build (t : TypeId) (n : Nat) (ps : Array (Nat × Operand)) (ho : o.op = .buildSlice t n ps) {E : TypeId} {i : TypeInfo} {z : Value} {size : Nat} (ht : P.underlying t = some (.slice E)) (hi : P.info? E = some i) (hz : i.zero = some z) (hsize : i.size = size)
    (hn : 0 < n) (hs0 : 0 < size) (hn2 : n * size ≤ 2 ^ 24) (vs : List Value) (hvs : ps.toList.map (fun p => (p.1, a.eval p.2)) = vs.zipIdx.map (fun p => (p.2, p.1))) (hl : vs.length = n) (hv : ∀ v ∈ vs, v.cells.size = size) :
    (execOp a.eval o).run P w = .ok (.value (.slice (some ⟨w.heap.size, 0, none⟩) n n)) (w.alloc (.cells (vs.flatMap (fun v => v.cells.toList)).toArray E)) := by
  have hzw : (zeroValue E).run P w = .ok z w := by simp [zeroValue, typeInfo, hi, hz]
  have hpos : 0 < n * size := Nat.mul_pos hn hs0
  have hfill : Instr.fill (fun i => some (i * size, size)) ((Array.range (n * size)).map (z.cells[· % z.cells.size]!)) (ps.map (fun p => (p.1, a.eval p.2))).toList = some (vs.flatMap (fun v => v.cells.toList)).toArray := by
    rw [Array.toList_map, hvs, fill_seq size vs 0 _ hv (by simp [hl])]; simp
  have h24 : ¬ n * size > 2 ^ 24 := by omega
  have h0 : ¬ n * size = 0 := by omega
  simp [execOp, ho, Instr.buildSlice, run_underlying ht, sizeOf, typeInfo, hi, hsize, h24, h0, hzw]
  rw [← Array.toList_map, hfill]
  simp [newRow]
theorem wanted_free (hg : o.guard = none) : Region.wanted o (yielded ops a.tmps) = true := by simp [Region.wanted, hg]
theorem wanted_guard {k d : Nat} {c : Bool} (hg : o.guard = some (k, c)) (hd : dstOf ops k = some d) (hv : a.tmps.getD d undef = .bool c) : Region.wanted o (yielded ops a.tmps) = true := by
  have h1 : a.tmps[d]? = some (.bool c) := by
    cases h : a.tmps[d]? with
    | none => rw [Array.getD_eq_getD_getElem?, h] at hv; exact absurd hv (by simp [undef])
    | some v => rw [Array.getD_eq_getD_getElem?, h] at hv; exact congrArg some hv
  have h2 : yielded ops a.tmps k = some c := by
    unfold yielded
    unfold dstOf at hd
    rw [hd]
    simp [h1]
  simp [Region.wanted, hg, h2]
theorem got_at {R : Nat → Env → Value → Prop} {e : Env} (h : ∀ ed ∈ o.after, Region.binds .any ed = true → ∀ d, dstOf ops ed.on = some d → R ed.on e (a.tmps.getD d undef)) (k d : Nat) (h1 : (o.after.any fun ed => ed.on == k && Region.binds .any ed) = true) (h2 : dstOf ops k = some d) : R k e (a.tmps.getD d undef) := by
  obtain ⟨i, hi, hx⟩ := Array.any_eq_true.1 h1
  simp only [Bool.and_eq_true, beq_iff_eq] at hx
  have := h o.after[i] (Array.getElem_mem hi) hx.2 d (by rw [hx.1]; exact h2)
  rw [hx.1] at this; exact this
theorem RK.get {tab : List FK} {e : Env} {f : FK} (h : ∀ ed ∈ o.after, Region.binds .any ed = true → ∀ d, dstOf ops ed.on = some d → RK tab ed.on e (a.tmps.getD d undef)) (k d : Nat) (h1 : (o.after.any fun ed => ed.on == k && Region.binds .any ed) = true) (h2 : dstOf ops k = some d) (hf : tab[k]? = some f) : f.ok e (a.eval (.tmp d)) :=
  got_at (R := RK tab) h k d h1 h2 f hf
end

section
variable {P : Program} {ops : Array Oper} {Q : Exit → Act → World → Prop} {o : Oper} {a : Act} {w : World} {i : Nat} {K : Act → World → Prop} {e : Env} {L : List HP} {tab : List FK}
theorem fx_val (ho : ops[i]? = some o) (hK : ∀ v w' e', e.le e' → Sat e' L w' → RK tab i e' v → K (a.put o.dst v) w') (hw : Region.wanted o (yielded ops a.tmps) = true) {v : Value} {f : FK} (hs : Sat e L w) (hf : tab[i]? = some f) (hok : f.ok e v) (hr : (execOp a.eval o).run P w = .ok (.value v) w) : wpOp P ops Q i K a w :=
  wpOp_step ho (fun K' hK' => by
    rw [if_pos hw]
    unfold Oper.wp
    rw [hr, Oper.upon_value]
    exact hK' _ _ (hK v w e (Env.le_refl e) hs (RK.of hf hok)))
theorem fx_call (ho : ops[i]? = some o) (hK : ∀ v w' e', e.le e' → Sat e' L w' → RK tab i e' v → K (a.put o.dst v) w') (hw : Region.wanted o (yielded ops a.tmps) = true) {f : FK} (hf : tab[i]? = some f) {g : FuncId} {args : Array Operand} {ts : Array TypeId} {vs : Array Value} (hop : o.op = .call { callee := .value (.func g), args := args, argTypes := ts }) (hargs : args.map a.eval = vs) (hen : Enters P g)
    (hc : Calls P g vs w fun x w' => ∃ v e', x = .returned v ∧ e.le e' ∧ Sat e' L w' ∧ f.ok e' v) : wpOp P ops Q i K a w :=
  wpOp_step ho (fun K' hK' => by
    rw [if_pos hw]
    unfold Oper.wp
    have hr : (execOp a.eval o).run P w = .ok (.enter g vs) w := by
      have h1 : execOp a.eval o = callFunc g (args.map a.eval) := by
        have ef : a.eval (.func g) = .func (.func g) #[] #[] := rfl
        unfold execOp
        simp [hop, resolve, Deferred.ofValue, invoke, ef]
      rw [h1, hargs, hen vs w]
    rw [hr, Oper.upon_enter]
    refine Calls.mono hc ?_
    rintro x w' ⟨v, e', rfl, hl, hs, hok⟩
    exact hK' _ _ (hK v w' e' hl hs (RK.of hf hok)))
theorem fx_build {α : Type} {E : El α} {t T : TypeId} {bytes : Nat} {z : Value} (ho : ops[i]? = some o) (hK : ∀ v w' e', e.le e' → Sat e' L w' → RK tab i e' v → K (a.put o.dst v) w') (hw : Region.wanted o (yielded ops a.tmps) = true) {f : FK} (hs : Sat e L w) (hf : tab[i]? = some f) (S : SlT P t T E.sz bytes z) (n : Nat) (ps : Array (Nat × Operand)) (hop : o.op = .buildSlice t n ps)
    (hn : 0 < n) (hn2 : n ≤ 1000) (vs : List Value) (ys : List α) (hvs : ps.toList.map (fun p => (p.1, a.eval p.2)) = vs.zipIdx.map (fun p => (p.2, p.1))) (hl : vs.length = n) (hy : ys.length = n) (hrd : Each2 (fun (y : α) (u : Value) => E.rd e.h y u.cells.toList) ys vs) (hfk : ∀ e' v, E.sl e'.h v ys → f.ok e' v) : wpOp P ops Q i K a w :=
  wpOp_step ho (fun K' hK' => by
    rw [if_pos hw]
    unfold Oper.wp
    obtain ⟨ti, hi, hz, hsize, _⟩ := info_parts S.info
    have key : ∀ (ys : List α) (vs : List Value), Each2 (fun (y : α) (u : Value) => E.rd e.h y u.cells.toList) ys vs → E.rds e.h ys (vs.flatMap (fun v => v.cells.toList)) ∧ ∀ v ∈ vs, v.cells.size = E.sz := by
      intro ys
      induction ys with
      | nil =>
        intro vs hf
        cases vs with
        | nil => exact ⟨rfl, by simp⟩
        | cons _ _ => exact absurd hf id
      | cons y ys ih =>
        intro vs hf
        cases vs with
        | nil => exact absurd hf id
        | cons v0 vs =>
          obtain ⟨h1, h2⟩ := hf
          obtain ⟨i1, i2⟩ := ih vs h2
          refine ⟨by rw [List.flatMap_cons]; exact ⟨_, _, rfl, h1, i1⟩, fun v hv => ?_⟩
          rcases List.mem_cons.1 hv with rfl | hv
          · have := E.len h1; simpa using this
          · exact i2 v hv
    obtain ⟨h1, h2⟩ := key ys vs hrd
    have hsm : n * E.sz ≤ 2 ^ 24 := by have := S.small; exact Nat.le_trans (Nat.mul_le_mul hn2 this) (by decide)
    rw [run_build t n ps hop S.ht hi hz hsize hn S.pos hsm vs hvs hl h2, Oper.upon_value]
    have hfl : (vs.flatMap (fun v => v.cells.toList)).length = n * E.sz := by rw [El.rds_len h1, hy]
    have h3 := row_of_toArray (hs.alloc (.cells (vs.flatMap (fun v => v.cells.toList)).toArray T)) hfl (by have := Nat.le_mul_of_pos_right n S.pos; unfold maxLen; omega)
    have h4 : St e (HP.rows T E (.slice (some ⟨w.heap.size, 0, none⟩) n n) ys :: L) _ := ⟨e, Env.le_refl e, Sat.rows_shut (by rw [hy]; exact h3) h1⟩
    obtain ⟨e', hle, hs', hsl⟩ := h4.persist.out_sl
    exact hK' _ _ (hK _ _ e' hle hs' (RK.of hf (hfk e' _ hsl))))
end
/-- One fact for each operation, in order. -/
def StepsFrom (S : Nat → Oper → Prop) : Nat → List Oper → Prop
  | _, [] => True
  | i, o :: l => S i o ∧ StepsFrom S (i + 1) l
theorem StepsFrom.nil {S : Nat → Oper → Prop} {i : Nat} : StepsFrom S i [] := trivial
theorem StepsFrom.cons {S : Nat → Oper → Prop} {i : Nat} {o : Oper} {l : List Oper} (h1 : S i o) (h2 : StepsFrom S (i + 1) l) : StepsFrom S i (o :: l) := ⟨h1, h2⟩
theorem StepsFrom.get {S : Nat → Oper → Prop} : ∀ {k : Nat} {l : List Oper}, StepsFrom S k l → ∀ {i : Nat} {o : Oper}, l[i]? = some o → S (k + i) o
  | _, [], _, i, o, h => by simp at h
  | k, x :: l, ⟨h1, _⟩, 0, o, h => by simp at h; subst h; exact h1
  | k, x :: l, ⟨_, h2⟩, i + 1, o, h => by
    have := h2.get (show l[i]? = some o by simpa using h)
    rw [show k + (i + 1) = k + 1 + i by omega]; exact this
def outB (ops : Array Oper) (k : Nat) : Bool := ops.toList.all (fun o => !(o.dst == some k))
theorem out_of {ops : Array Oper} {k : Nat} (h : outB ops k = true) : ∀ j, dstOf ops j ≠ some k := by
  intro j hj
  unfold dstOf at hj
  cases hq : ops[j]? with
  | none => rw [hq] at hj; simp at hj
  | some o =>
    rw [hq] at hj
    have hm : o ∈ ops.toList := by
      obtain ⟨hlt, rfl⟩ := Array.getElem?_eq_some_iff.1 hq
      simp
    have := List.all_eq_true.1 h o hm
    simp only [Option.bind_some] at hj
    rw [hj] at this; simp at this
/-- What an operation's step is shown from. -/
def StepAt (P : Program) (ops : Array Oper) (Q : Exit → Act → World → Prop) (b : Env) (L : List HP) (tab : List FK) (a0 : Act) (i : Nat) (o : Oper) : Prop :=
  ∀ (a : Act) (w : World) (e : Env), b.le e → Sat e L w → (∀ k, outB ops k = true → a.tmps.getD k undef = a0.tmps.getD k undef) →
    (∀ ed ∈ o.after, Region.binds .any ed = true → ∀ d, dstOf ops ed.on = some d → RK tab ed.on e (a.tmps.getD d undef)) →
    ∀ K : Act → World → Prop, (∀ v w' e', e.le e' → Sat e' L w' → RK tab i e' v → K (a.put o.dst v) w') → wpOp P ops Q i K a w
theorem wp_region_table {P : Program} {ops : Array Oper} {Q : Exit → Act → World → Prop} {id : Nat} {a0 : Act} {w0 : World} {b : Env} {L : List HP} (tab : List FK) (hm : P.follows .mixedOrders = true) (hb : backB ops = true) (hd : dstsB ops a0.tmps.size = true) (hf : fitB ops a0.tmps.size = true) (h0 : St b L w0)
    (steps : StepsFrom (StepAt P ops Q b L tab a0) 0 ops.toList)
    (fin : ∀ (t : Array Value) (w : World) (e : Env), b.le e → Sat e L w → t.size = a0.tmps.size → (∀ k, outB ops k = true → t.getD k undef = a0.tmps.getD k undef) → (∀ i d f, dstOf ops i = some d → tab[i]? = some f → f.ok e (t.getD d undef)) → Q .normal ⟨t, a0.defers⟩ w) : (Code.region id ops true).wp P Q a0 w0 := by
  have hget : ∀ (t : Array Value) (k : Nat), t[k]? = a0.tmps[k]? → t.getD k undef = a0.tmps.getD k undef := fun t k h => by rw [Array.getD_eq_getD_getElem?, Array.getD_eq_getD_getElem?, h]
  refine wp_region_facts (R := RK tab) hm hb hd hf (RK.up tab) h0 ?_ ?_
  · intro i o ho a w e hle hs hsz hsame hgot K hK
    have := steps.get (i := i) (o := o) (by simpa using ho)
    rw [Nat.zero_add] at this
    exact this a w e hle hs (fun k hk => hget _ _ (hsame k (out_of hk))) hgot K hK
  · intro a w e hle hs hsz hdf hsame hR
    have hn : ∀ i d f, dstOf ops i = some d → tab[i]? = some f → f.ok e (a.tmps.getD d undef) := fun i d f hdd hf => by
      refine hR i d ?_ hdd f hf
      rcases Nat.lt_or_ge i ops.size with h | h
      · exact h
      · unfold dstOf at hdd; rw [Array.getElem?_eq_none h] at hdd; simp at hdd
    have := fin a.tmps w e hle hs hsz (fun k hk => hget _ _ (hsame k (out_of hk))) hn
    rw [← hdf] at this
    exact this
/-- A frame of n slots, told one by one. -/
theorem tmps_told (t : Array Value) (n : Nat) (h : t.size = n) : ∃ g : Nat → Value, t = ((List.range n).map g).toArray ∧ ∀ i, t.getD i undef = g i := by
  refine ⟨fun i => t.getD i undef, ?_, fun _ => rfl⟩
  apply Array.ext
  · simp [h]
  · intro i h1 h2
    simp [h1]
end Go.Proofs.Ytmebmgbjpbapjaa

namespace Go.Proofs.Ytmebmgbjpbapjaa
open Go.RowKit

section
variable {P : Program} {ops : Array Oper} {Q : Exit → Act → World → Prop} {b : Env} {L : List HP} {tab : List FK} {a0 : Act} {i : Nat} {o : Oper}
/-- Wanted, from what the slots hold. -/
def Wants (ops : Array Oper) (tab : List FK) (o : Oper) : Prop := ∀ (a : Act) (e : Env), (∀ ed ∈ o.after, Region.binds .any ed = true → ∀ d, dstOf ops ed.on = some d → RK tab ed.on e (a.tmps.getD d undef)) → Region.wanted o (yielded ops a.tmps) = true
theorem Wants.free (hg : o.guard = none) : Wants ops tab o := fun _ _ _ => wanted_free hg
theorem Wants.guard (k d : Nat) {c : Bool} (hg : o.guard = some (k, c)) (hd : dstOf ops k = some d) (h1 : (o.after.any fun ed => ed.on == k && Region.binds .any ed) = true) (hf : tab[k]? = some (.is (.bool c))) : Wants ops tab o :=
  fun _ _ h => wanted_guard hg hd (RK.get (f := .is (.bool c)) h k d h1 hd hf)
/-- An operand, and what it holds. -/
inductive OpK where
  | at (k d : Nat) (f : FK)
  | cst (v : Value)
def OpK.op : OpK → Operand
  | .at _ d _ => .tmp d
  | .cst v => .const v
def OpK.ok (ops : Array Oper) (tab : List FK) (o : Oper) : OpK → Bool → Prop
  | .at k d f, _ => (o.after.any fun ed => ed.on == k && Region.binds .any ed) = true ∧ dstOf ops k = some d ∧ tab[k]? = some f
  | .cst _, _ => True
def OpK.has (e : Env) : OpK → Value → Prop
  | .at _ _ f, v => f.ok e v
  | .cst u, v => v = u
theorem OpK.get {tab : List FK} {e : Env} {a : Act} (h : ∀ ed ∈ o.after, Region.binds .any ed = true → ∀ d, dstOf ops ed.on = some d → RK tab ed.on e (a.tmps.getD d undef)) : ∀ (x : OpK), x.ok ops tab o true → x.has e (a.eval x.op)
  | .at k d f, ⟨h1, h2, h3⟩ => RK.get h k d h1 h2 h3
  | .cst _, _ => rfl
def OpKs (ops : Array Oper) (tab : List FK) (o : Oper) : List OpK → Prop
  | [] => True
  | x :: l => x.ok ops tab o true ∧ OpKs ops tab o l
def HasK (e : Env) : List OpK → List Value → Prop
  | [], vs => vs = []
  | x :: l, vs => ∃ v r, vs = v :: r ∧ x.has e v ∧ HasK e l r
theorem OpKs.get {tab : List FK} {e : Env} {a : Act} (h : ∀ ed ∈ o.after, Region.binds .any ed = true → ∀ d, dstOf ops ed.on = some d → RK tab ed.on e (a.tmps.getD d undef)) : ∀ (l : List OpK), OpKs ops tab o l → HasK e l (l.map fun x => a.eval x.op)
  | [], _ => rfl
  | x :: l, ⟨h1, h2⟩ => ⟨_, _, rfl, x.get h h1, OpKs.get h l h2⟩

theorem at_call (ho : ops[i]? = some o) (W : Wants ops tab o) {f : FK} (hf : tab[i]? = some f) {g : FuncId} {ts : Array TypeId} (l : List OpK) (hop : o.op = .call { callee := .value (.func g), args := (l.map OpK.op).toArray, argTypes := ts }) (hl : OpKs ops tab o l) (hen : Enters P g)
    (hc : ∀ w e vs, b.le e → Sat e L w → HasK e l vs → Calls P g vs.toArray w fun x w' => ∃ v e', x = .returned v ∧ e.le e' ∧ Sat e' L w' ∧ f.ok e' v) : StepAt P ops Q b L tab a0 i o :=
  fun a w e hle hs _ hgot _ hK => fx_call ho hK (W a e hgot) hf hop (by simp) hen (hc w e (l.map fun x => a.eval x.op) hle hs (OpKs.get hgot l hl))
theorem at_load {T : TypeId} {zs cs : List Value} {g : Nat} {U : TypeId} (ho : ops[i]? = some o) (W : Wants ops tab o) (A : AgT P T zs) (d : Nat) (hop : o.op = .load T (.tmp d)) (hd : outB ops d = true) (hv : a0.tmps.getD d undef = .pointer (some ⟨g, 0, none⟩)) (hm : HP.blk g (.cells cs.toArray U) ∈ L) (hl : cs.length = zs.length) (hf : tab[i]? = some (.is (.agg cs.toArray))) : StepAt P ops Q b L tab a0 i o :=
  fun a w e hle hs hout hgot _ hK => fx_val ho hK (W a e hgot) hs hf (show FK.ok (.is (.agg cs.toArray)) e (.agg cs.toArray) from rfl) (run_loadB A (.tmp d) hop ((hout d hd).trans hv) hl (fun j u hj => by rw [Nat.zero_add]; exact (hs.st.blk_cell hm j).trans (by simpa using hj)))
theorem each2_map {α : Type} {R : α → Value → Prop} {g : α → Value} : ∀ (ys : List α), (∀ y ∈ ys, R y (g y)) → Each2 R ys (ys.map g)
  | [], _ => trivial
  | y :: ys, h => ⟨h y (by simp), each2_map ys (fun z hz => h z (by simp [hz]))⟩
theorem zipIdx_from (l : List Value) : ∀ k : Nat, (l.zipIdx k).map (fun p => (p.2, p.1)) = (l.zipIdx k).map (fun p => (p.2, p.1)) := fun _ => rfl
/-- Strings, as constants. -/
theorem at_strs {t : TypeId} {T : TypeId} {bytes : Nat} {z : Value} (ho : ops[i]? = some o) (W : Wants ops tab o) (S : SlT P t T strE.sz bytes z) (l : List Str) (hop : o.op = .buildSlice t l.length ((l.map fun s => Operand.const (sv s)).zipIdx.map fun p => (p.2, p.1)).toArray) (hn : 0 < l.length) (hn2 : l.length ≤ 1000) (hok : ∀ s ∈ l, okStr s) (hf : tab[i]? = some (.strs l)) : StepAt P ops Q b L tab a0 i o :=
  fun a w e hle hs _ hgot _ hK => fx_build ho hK (W a e hgot) hs hf S l.length _ hop hn hn2 (l.map sv) l (by
    simp only [List.map_map]
    rw [List.zipIdx_map, List.zipIdx_map, List.map_map, List.map_map]
    rfl) (by simp) rfl (each2_map l (fun y hy => ⟨rfl, hok y hy⟩)) (fun _ _ h => h)
/-- From what slots hold. -/
theorem at_build {α : Type} {E : El α} {t : TypeId} {T : TypeId} {bytes : Nat} {z : Value} (ho : ops[i]? = some o) (W : Wants ops tab o) (S : SlT P t T E.sz bytes z) (l : List OpK) (ys : List α) (hop : o.op = .buildSlice t l.length ((l.map OpK.op).zipIdx.map fun p => (p.2, p.1)).toArray) (hn : 0 < l.length) (hn2 : l.length ≤ 1000) (hy : ys.length = l.length) (hl : OpKs ops tab o l)
    (hrd : ∀ e vs, HasK e l vs → Each2 (fun (y : α) (u : Value) => E.rd e.h y u.cells.toList) ys vs) {f : FK} (hfk : ∀ e' v, E.sl e'.h v ys → f.ok e' v) (hf : tab[i]? = some f) : StepAt P ops Q b L tab a0 i o :=
  fun a w e hle hs _ hgot _ hK => fx_build ho hK (W a e hgot) hs hf S l.length _ hop hn hn2 (l.map fun x => a.eval x.op) ys (by
    simp only [List.map_map]
    rw [List.zipIdx_map, List.zipIdx_map, List.map_map, List.map_map]
    rfl) (by simp) hy (hrd e _ (OpKs.get hgot l hl)) hfk
/-- What is plain: its run is shown. -/
theorem at_val (ho : ops[i]? = some o) (W : Wants ops tab o) (l : List OpK) (hl : OpKs ops tab o l) {f : FK} (hf : tab[i]? = some f) (hr : ∀ (a : Act) (w : World) (e : Env), HasK e l (l.map fun x => a.eval x.op) → ∃ v, f.ok e v ∧ (execOp a.eval o).run P w = .ok (.value v) w) : StepAt P ops Q b L tab a0 i o :=
  fun a w e hle hs _ hgot _ hK => by
    obtain ⟨v, h1, h2⟩ := hr a w e (OpKs.get hgot l hl)
    exact fx_val ho hK (W a e hgot) hs hf h1 h2
end
end Go.Proofs.Ytmebmgbjpbapjaa
