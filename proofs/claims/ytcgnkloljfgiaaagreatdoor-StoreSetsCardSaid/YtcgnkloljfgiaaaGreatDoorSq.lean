/-
  No program in sight: one law for the walk at each operation, in the words of 'St'.
-/
import Derived.Test.YtcgnkloljfgiaaaGreatDoorSt
import Derived.Maps.RangeRun
namespace Go.Proofs.YtcgnkloljfgiaaaGreatDoor
open Go.RowKit Go.Maps Go.MapKept

/-- A slice's type, its element's size, bytes, zero. -/
structure SlT (P : Program) (t T : TypeId) (sz bytes : Nat) (z : Value) : Prop where
  ht : P.underlying t = some (.slice T)
  info : (P.info? T).map (fun i => (i.zero, i.size, i.bytes)) = some (some z, sz, bytes)
  zs : z.cells.size = sz
  pos : 0 < sz
  small : sz ≤ 1000

/-- Two lists, thing by thing. -/
def Each2 {α β : Type} (R : α → β → Prop) : List α → List β → Prop
  | [], [] => True
  | x :: xs, y :: ys => R x y ∧ Each2 R xs ys
  | _, _ => False

section
variable {P : Program} {ops : Array Oper} {rest : List Oper} {o : Oper} {a : Act} {w : World} {Q : Exit → Act → World → Prop} {b : Env} {L : List HP}
variable {α : Type} {E : El α} {t T : TypeId} {bytes : Nat} {z : Value}

theorem wpList_append_st (hg : o.guard = none) (s x : Operand) (S : SlT P t T E.sz bytes z) (ho : o.op = .call { callee := .builtin .append, args := #[s, x], argTypes := #[t, t] })
    {v sv : Value} {xs ys : List α} (hs : St b (HP.rows T E v xs :: L) w) (hsrc : Src E (HP.rows T E v xs :: L) w sv ys) (hv : a.eval s = v) (hx : a.eval x = sv)
    (h63 : xs.length + ys.length ≤ maxLen) (hbytes : (xs.length + ys.length) * bytes ≤ 140737488355328)
    (h : ∀ base n cap w', n = xs.length + ys.length → St b (HP.rows T E (.slice base n cap) (xs ++ ys) :: L) w' → wpList P ops Q rest (a.put o.dst (.slice base n cap)) w') : wpList P ops Q (o :: rest) a w := by
  obtain ⟨i, hi, hz, hsize, hby⟩ := info_parts S.info
  obtain ⟨e, hl, hs⟩ := hs
  obtain ⟨ds, hrd, hview⟩ := hsrc e hs
  obtain ⟨cs, hrc, hs1⟩ := hs.rows_open
  refine wpList_append_sl hg s x t ho S.ht hi hz hsize hby S.zs S.pos hs1 hview hv hx (El.rds_len hrd) (El.rds_one hrd) h63 hbytes ?_
  intro v' w' hs' _
  have hs2 : Sat e (HP.rows T E v' (xs ++ ys) :: L) w' := Sat.rows_shut (by rw [List.length_append]; exact hs') (El.rds_append hrc hrd)
  obtain ⟨base, cap, hv', _⟩ := hs2.rows_form
  subst hv'
  exact h base _ cap w' List.length_append ⟨e, hl, hs2⟩

theorem wpList_build0_st (hg : o.guard = none) (S : SlT P t T E.sz bytes z) (ho : o.op = .buildSlice t 0 #[]) (hs : St b L w)
    (h : ∀ g w', St b (HP.rows T E (.slice (some ⟨g, 0, none⟩) 0 0) ([] : List α) :: L) w' → wpList P ops Q rest (a.put o.dst (.slice (some ⟨g, 0, none⟩) 0 0)) w') : wpList P ops Q (o :: rest) a w := by
  obtain ⟨i, hi, _⟩ := info_parts S.info
  obtain ⟨e, hl, hs⟩ := hs
  exact wpList_build0_sl hg t ho S.ht hi E.sz hs (fun g w' h' => h g w' ⟨e, hl, Sat.rows_shut (cs := []) h' rfl⟩)

theorem wpList_build_st (hg : o.guard = none) (n : Nat) (ps : Array (Nat × Operand)) (S : SlT P t T E.sz bytes z) (ho : o.op = .buildSlice t n ps) (hn : 0 < n) (hn2 : n ≤ 1000) (vs : List Value) (ys : List α)
    (hvs : ps.toList.map (fun p => (p.1, a.eval p.2)) = vs.zipIdx.map (fun p => (p.2, p.1))) (hl : vs.length = n) (hy : ys.length = n) (hs : St b L w)
    (hrd : ∀ e, b.le e → Sat e L w → Each2 (fun (y : α) (u : Value) => E.rd e.h y u.cells.toList) ys vs)
    (h : ∀ g w', St b (HP.rows T E (.slice (some ⟨g, 0, none⟩) n n) ys :: L) w' → wpList P ops Q rest (a.put o.dst (.slice (some ⟨g, 0, none⟩) n n)) w') : wpList P ops Q (o :: rest) a w := by
  obtain ⟨i, hi, hz, hsize, _⟩ := info_parts S.info
  obtain ⟨e, hle, hs⟩ := hs
  have hf := hrd e hle hs
  have key : ∀ (ys : List α) (vs : List Value), Each2 (fun (y : α) (u : Value) => E.rd e.h y u.cells.toList) ys vs → E.rds e.h ys (vs.flatMap (fun v => v.cells.toList)) ∧ ∀ v ∈ vs, v.cells.size = E.sz := by
    intro ys
    induction ys with
    | nil =>
      intro vs hf
      cases vs with
      | nil => exact ⟨rfl, by simp⟩
      | cons _ _ => exact absurd hf id
    | cons y ys ih =>
      intro vs hf
      cases vs with
      | nil => exact absurd hf id
      | cons v0 vs =>
        obtain ⟨h1, h2⟩ := hf
        obtain ⟨i1, i2⟩ := ih vs h2
        refine ⟨by rw [List.flatMap_cons]; exact ⟨_, _, rfl, h1, i1⟩, fun v hv => ?_⟩
        rcases List.mem_cons.1 hv with rfl | hv
        · have := E.len h1; simpa using this
        · exact i2 v hv
  obtain ⟨h1, h2⟩ := key ys vs hf
  refine wpList_build_sl hg t n ps ho S.ht hi hz hsize hn S.pos (by have := S.small; exact Nat.le_trans (Nat.mul_le_mul hn2 this) (by decide)) vs hvs hl h2 hs ?_
  intro g w' h'
  exact h g w' ⟨e, hle, Sat.rows_shut (by rw [hy]; exact h') h1⟩

theorem wpList_build1_st (hg : o.guard = none) (x : Operand) (S : SlT P t T E.sz bytes z) (ho : o.op = .buildSlice t 1 #[(0, x)]) {u : Value} (y : α) (hx : a.eval x = u) (hs : St b L w)
    (hrd : ∀ e, b.le e → Sat e L w → E.rd e.h y u.cells.toList)
    (h : ∀ g w', St b (HP.rows T E (.slice (some ⟨g, 0, none⟩) 1 1) [y] :: L) w' → wpList P ops Q rest (a.put o.dst (.slice (some ⟨g, 0, none⟩) 1 1)) w') : wpList P ops Q (o :: rest) a w :=
  wpList_build_st hg 1 _ S ho (by omega) (by omega) [u] [y] (by simp [hx]) rfl rfl hs (fun e hl hs => ⟨hrd e hl hs, trivial⟩) h

theorem wpList_make_st (hg : o.guard = none) (l c : Operand) (S : SlT P t T E.sz bytes z) (ho : o.op = .makeSlice t l c) (h1 : E.sz = 1) {kl kc : IntKind} {vl vc : Int} (n : Nat) (hl : a.eval l = .int kl vl) (hc : a.eval c = .int kc vc) (el : vl = n) (ec : vc = n)
    (d : α) (hd : ∀ h, E.rd h d [z]) (hs : St b L w) (hbytes : bytes * n ≤ 140737488355328) (h63 : n ≤ maxLen)
    (h : ∀ g w', St b (HP.rows T E (.slice (some ⟨g, 0, none⟩) n n) (List.replicate n d) :: L) w' → wpList P ops Q rest (a.put o.dst (.slice (some ⟨g, 0, none⟩) n n)) w') : wpList P ops Q (o :: rest) a w := by
  obtain ⟨i, hi, hz, hsize, hby⟩ := info_parts S.info
  obtain ⟨e, hle, hs⟩ := hs
  refine wpList_make_sl hg l c t ho S.ht hi hz hsize hby n hl hc el ec hs hbytes h63 ?_
  intro g w' h'
  refine h g w' ⟨e, hle, Sat.rows_shut ?_ (El.rds_rep (hd e.h) n)⟩
  rw [List.length_replicate]
  have hzc : z.cells.size = 1 := by rw [S.zs, h1]
  have e1 : (madeCells z.cells (n * E.sz)).toList = (List.replicate n [z]).flatten := by
    have hz1 : z.cells = #[z] := by
      have hlen := E.one (hd e.h) z (by simp)
      cases z <;> simp_all [Value.oneCell', Value.cells]
    apply List.ext_getElem
    · simp [size_madeCells, h1]
    · intro i h2 h3
      simp [madeCells, hz1, Nat.mod_one]
  rw [← e1]; exact h'

/-- 's[l:]', 's[:h]', 's[l:h]' of a slice that is read. -/
theorem St.slice_run (S : SlT P t T E.sz bytes z) {v : Value} {xs : List α} (hs : St b L w) (hm : HP.sl E v xs ∈ L) (l h : Nat) (h1 : l ≤ h) (h2 : h ≤ xs.length) (lo hi : Option Value)
    (hlo : (lo = none ∧ l = 0) ∨ ∃ k, lo = some (.int k (l : Int))) (hhi : (hi = none ∧ h = xs.length) ∨ ∃ k, hi = some (.int k (h : Int))) :
    ∃ base cap, (∀ w', (Instr.sliceAt t v lo hi none).run P w' = .ok (.slice base (h - l) cap) w') ∧ St b (HP.sl E (.slice base (h - l) cap) ((xs.take h).drop l) :: L) w := by
  obtain ⟨i, hi', hz, hsize, hby⟩ := info_parts S.info
  obtain ⟨e, hle, hs⟩ := hs
  obtain ⟨cs, hr, hview, bs, cap, hv, hc1, hc2⟩ := hs.sl_mem hm
  subst hv
  refine ⟨if cap = l then bs else bs.map (·.add (l * E.sz)), cap - l, ?_, e, hle, hs.lay (fun _ => ?_)⟩
  · intro w
    have hel : P.elem t = T := by simp [Program.elem, S.ht]
    have hszr : (sizeOf T).run P w = .ok E.sz w := by simp [sizeOf, typeInfo, hi', hsize]
    have hb : (Instr.sliceBounds true xs.length cap lo hi none).run P w = .ok (l, h, cap) w := by
      have hlc : (l : Int) ≤ (h : Int) := by omega
      have hhc' : (h : Int) ≤ (cap : Int) := by omega
      rcases hlo with ⟨rfl, rfl⟩ | ⟨k, rfl⟩ <;> rcases hhi with ⟨rfl, rfl⟩ | ⟨k', rfl⟩
      · simp [Instr.sliceBounds]
      · simp [Instr.sliceBounds, run_sliceBound w k' (h : Int) cap _ (Int.natCast_nonneg h) hhc']
      · simp [Instr.sliceBounds, run_sliceBound w k (l : Int) xs.length _ (Int.natCast_nonneg l) hlc]
      · simp [Instr.sliceBounds, run_sliceBound w k' (h : Int) cap _ (Int.natCast_nonneg h) hhc', run_sliceBound w k (l : Int) h _ (Int.natCast_nonneg l) hlc]
    simp [Instr.sliceAt, Instr.slice, run_underlying S.ht, hb, hszr]
  · have hrd := (El.rds_part l (by rw [List.length_take]; omega) (El.rds_part h h2 hr).1).2
    have hlen : ((xs.take h).drop l).length = h - l := by rw [List.length_drop, List.length_take]; omega
    have hc3 : h - l ≤ cap - l := by omega
    have hc4 : cap - l ≤ maxLen := Nat.le_trans (Nat.sub_le _ _) hc2
    refine ⟨_, hrd, ?_, if cap = l then bs else bs.map (·.add (l * E.sz)), cap - l, by rw [hlen], Nat.le_trans (Nat.le_of_eq hlen) hc3, hc4⟩
    rw [hlen]
    obtain ⟨bs', cap', hv', hx⟩ := hview
    simp only [Value.slice.injEq] at hv'
    refine ⟨_, _, rfl, ?_⟩
    by_cases hne : (cs.take (h * E.sz)).drop (l * E.sz) = []
    · exact Or.inl hne
    · right
      rcases hx with rfl | ⟨g, o, c, t', fz, rfl, h3, h4⟩
      · simp at hne
      · have hne2 : ¬ cap = l := by
          intro hcl
          apply hne
          apply List.eq_nil_of_length_eq_zero
          have hcsl := El.rds_len hr
          rw [List.length_drop, List.length_take, hcsl]
          have : xs.length * E.sz ≤ l * E.sz := Nat.mul_le_mul_right _ (by omega)
          have h5 : h * E.sz ≤ xs.length * E.sz := Nat.mul_le_mul_right _ h2
          omega
        refine ⟨g, o + l * E.sz, c, t', fz, ?_, h3, fun j u hj => ?_⟩
        · rw [if_neg hne2, hv'.1]; simp [Addr.add]
        · rw [List.getElem?_drop, List.getElem?_take] at hj
          split at hj
          · rw [Nat.add_assoc]; exact h4 _ u hj
          · cases hj

theorem wpList_slice_st (hg : o.guard = none) (x : Operand) (lo hi : Option Operand) (S : SlT P t T E.sz bytes z) (ho : o.op = .slice t x lo hi none) {v : Value} {xs : List α} (hs : St b L w) (hm : HP.sl E v xs ∈ L) (hx : a.eval x = v) (l h : Nat) (h1 : l ≤ h) (h2 : h ≤ xs.length)
    (hlo : (lo.map a.eval = none ∧ l = 0) ∨ ∃ k, lo.map a.eval = some (.int k (l : Int))) (hhi : (hi.map a.eval = none ∧ h = xs.length) ∨ ∃ k, hi.map a.eval = some (.int k (h : Int)))
    (hk : ∀ base cap, St b (HP.sl E (.slice base (h - l) cap) ((xs.take h).drop l) :: L) w → wpList P ops Q rest (a.put o.dst (.slice base (h - l) cap)) w) : wpList P ops Q (o :: rest) a w := by
  obtain ⟨base, cap, hrun, hs'⟩ := St.slice_run S hs hm l h h1 h2 _ _ hlo hhi
  exact wpList_val hg (by simp [execOp, ho, hx, hrun w]) (hk base cap hs')

theorem St.slice_to (S : SlT P t T E.sz bytes z) {v : Value} {xs : List α} (hs : St b L w) (hm : HP.sl E v xs ∈ L) (h : Nat) (h2 : h ≤ xs.length) (k : IntKind) :
    ∃ base cap, (∀ w', (Instr.sliceAt t v none (some (.int k (h : Int))) none).run P w' = .ok (.slice base h cap) w') ∧ St b (HP.sl E (.slice base h cap) (xs.take h) :: L) w := by
  obtain ⟨base, cap, h1, h2⟩ := St.slice_run S hs hm 0 h (Nat.zero_le _) h2 none (some (.int k (h : Int))) (Or.inl ⟨rfl, rfl⟩) (Or.inr ⟨k, rfl⟩)
  exact ⟨base, cap, h1, h2⟩
theorem St.slice_from (S : SlT P t T E.sz bytes z) {v : Value} {xs : List α} (hs : St b L w) (hm : HP.sl E v xs ∈ L) (l : Nat) (h2 : l ≤ xs.length) (k : IntKind) :
    ∃ base cap, (∀ w', (Instr.sliceAt t v (some (.int k (l : Int))) none none).run P w' = .ok (.slice base (xs.length - l) cap) w') ∧ St b (HP.sl E (.slice base (xs.length - l) cap) (xs.drop l) :: L) w := by
  obtain ⟨base, cap, h1, h3⟩ := St.slice_run S hs hm l xs.length h2 (Nat.le_refl _) (some (.int k (l : Int))) none (Or.inr ⟨k, rfl⟩) (Or.inl ⟨rfl, rfl⟩)
  rw [List.take_of_length_le (Nat.le_refl _)] at h3
  exact ⟨base, cap, h1, h3⟩

/-! in a region that draws its order -/
theorem step_append_st {K : Act → World → Prop} {X : Prop} (hg : o.guard = none) (s x : Operand) (S : SlT P t T E.sz bytes z) (ho : o.op = .call { callee := .builtin .append, args := #[s, x], argTypes := #[t, t] })
    {v sv : Value} {xs ys : List α} (hs : St b (HP.rows T E v xs :: L) w) (hsrc : Src E (HP.rows T E v xs :: L) w sv ys) (hv : a.eval s = v) (hx : a.eval x = sv)
    (h63 : xs.length + ys.length ≤ maxLen) (hbytes : (xs.length + ys.length) * bytes ≤ 140737488355328)
    (h : ∀ base n cap w', n = xs.length + ys.length → St b (HP.rows T E (.slice base n cap) (xs ++ ys) :: L) w' → K (a.put o.dst (.slice base n cap)) w') : if Region.wanted o (yielded ops a.tmps) = true then Oper.wp P o a w K Q else X := by
  obtain ⟨i, hi, hz, hsize, hby⟩ := info_parts S.info
  obtain ⟨e, hl, hs⟩ := hs
  obtain ⟨ds, hrd, hview⟩ := hsrc e hs
  obtain ⟨cs, hrc, hs1⟩ := hs.rows_open
  refine step_append_sl hg s x t ho S.ht hi hz hsize hby S.zs S.pos hs1 hview hv hx (El.rds_len hrd) (El.rds_one hrd) h63 hbytes ?_
  intro v' w' hs' _
  have hs2 : Sat e (HP.rows T E v' (xs ++ ys) :: L) w' := Sat.rows_shut (by rw [List.length_append]; exact hs') (El.rds_append hrc hrd)
  obtain ⟨base, cap, hv', _⟩ := hs2.rows_form
  subst hv'
  exact h base _ cap w' List.length_append ⟨e, hl, hs2⟩
/-- A block that was just made, as an owned slice: '[]T{}', '[]T{x}'. -/
theorem St.rows0 {g : Nat} {U : TypeId} (h : St b (HP.blk g (.cells #[] U) :: L) w) (E : El α) : St b (HP.rows U E (.slice (some ⟨g, 0, none⟩) 0 0) ([] : List α) :: L) w :=
  h.lift fun _ hs => Sat.rows_shut (cs := []) (row_of_toArray (cs := []) hs (by simp) (Nat.zero_le _)) rfl
theorem St.rows1 {g : Nat} {U : TypeId} {cs : List Value} (h : St b (HP.blk g (.cells cs.toArray U) :: L) w) (y : α) (hrd : ∀ e, b.le e → Sat e (HP.blk g (.cells cs.toArray U) :: L) w → E.rd e.h y cs) : St b (HP.rows U E (.slice (some ⟨g, 0, none⟩) 1 1) [y] :: L) w := by
  obtain ⟨e, hl, hs⟩ := h
  have h1 := hrd e hl hs
  exact ⟨e, hl, Sat.rows_shut (cs := cs) (row_of_toArray hs (by rw [E.len h1]; simp) (by unfold maxLen; simp)) ⟨cs, [], by simp, h1, rfl⟩⟩

/-- 's[:h]', 's[l:]' of an owned slice, whatever the world. -/
theorem run_slice_top (S : SlT P t T E.sz bytes z) (base : Option Addr) (hb : base = none ∨ ∃ g o, base = some ⟨g, o, none⟩) (n cap h : Nat) (hh : h ≤ cap) (k : IntKind) (w : World) : (Instr.sliceAt t (.slice base n cap) none (some (.int k (h : Int))) none).run P w = .ok (.slice base h cap) w := by
  obtain ⟨i, hi', hz, hsize, hby⟩ := info_parts S.info
  have hszr : (sizeOf T).run P w = .ok E.sz w := by simp [sizeOf, typeInfo, hi', hsize]
  have hhc' : (h : Int) ≤ (cap : Int) := by omega
  rcases hb with rfl | ⟨g, o, rfl⟩ <;> simp [Instr.sliceAt, Instr.slice, run_underlying S.ht, Instr.sliceBounds, run_sliceBound w k (h : Int) cap _ (Int.natCast_nonneg h) hhc', hszr, Addr.add]
def fromBase (base : Option Addr) (cap l sz : Nat) : Option Addr := if cap = l then base else base.map (·.add (l * sz))
theorem run_slice_low (S : SlT P t T E.sz bytes z) (base : Option Addr) (n cap l : Nat) (hl : l ≤ n) (k : IntKind) (w : World) : (Instr.sliceAt t (.slice base n cap) (some (.int k (l : Int))) none none).run P w = .ok (.slice (fromBase base cap l E.sz) (n - l) (cap - l)) w := by
  obtain ⟨i, hi', hz, hsize, hby⟩ := info_parts S.info
  have hszr : (sizeOf T).run P w = .ok E.sz w := by simp [sizeOf, typeInfo, hi', hsize]
  have hhc' : (l : Int) ≤ (n : Int) := by omega
  simp [Instr.sliceAt, Instr.slice, run_underlying S.ht, Instr.sliceBounds, run_sliceBound w k (l : Int) n _ (Int.natCast_nonneg l) hhc', hszr, fromBase]

/-- 'clear(s[l:])' of an owned slice: its first l things are left. -/
theorem wpList_clear_sl_st (hg : o.guard = none) (x : Operand) (S : SlT P t T E.sz bytes z) (ho : o.op = .call { callee := .builtin .clear, args := #[x], argTypes := #[t] }) {base : Option Addr} {n cap : Nat} {xs : List α} (hs : St b (HP.rows T E (.slice base n cap) xs :: L) w) (l : Nat) (hl : l ≤ xs.length) (hz1 : ∀ u ∈ z.cells.toList, u.oneCell' = true)
    (hx : a.eval x = .slice (fromBase base cap l E.sz) (n - l) (cap - l))
    (h : ∀ w', St b (HP.rows T E (.slice base l cap) (xs.take l) :: L) w' → wpList P ops Q rest (a.put o.dst (.tuple #[])) w') : wpList P ops Q (o :: rest) a w := by
  obtain ⟨i, hi', hz, hsize, hby⟩ := info_parts S.info
  have hs0 := hs
  obtain ⟨e, hle, hs⟩ := hs
  have hn : n = xs.length := by obtain ⟨_, _, hv, _⟩ := hs.rows_form; simp only [Value.slice.injEq] at hv; exact hv.2.1
  subst hn
  by_cases hlz : xs.length - l = 0
  · have hle2 : l = xs.length := by omega
    have := h w (by rw [hle2, List.take_of_length_le (Nat.le_refl _)]; exact hs0)
    refine wpList_val hg ?_ this
    rw [hlz] at hx
    simp only [execOp, ho, resolve, invoke, builtin]
    cases hb : fromBase base cap l E.sz <;> simp [hx, hb, Builtin.clear_, run_underlying S.ht]
  · obtain ⟨g, rfl⟩ := hs0.rows_base mem0 (by omega)
    obtain ⟨cs, hr, hs⟩ := hs.rows_open
    obtain ⟨hcl, ⟨hv, hn, _, _⟩ | ⟨g', cap', cur, hv, h1, h2, h3, h4, hs1⟩⟩ := hs.row_open
    · cases hv
    · simp only [Value.slice.injEq, Option.some.injEq, Addr.mk.injEq, and_true, true_and] at hv
      obtain ⟨rfl, rfl⟩ := hv
      have hne : ¬ cap = l := by omega
      have hfb : fromBase (some ⟨g, 0, none⟩) cap l E.sz = some ⟨g, l * E.sz, none⟩ := by
        unfold fromBase; rw [if_neg hne, Option.map_some, Addr.add_lit, Nat.zero_add]
      rw [hfb] at hx
      have hzc : (Builtin.zeroCells z.cells (xs.length - l)).toList.length = (xs.length - l) * E.sz := by simp [Builtin.zeroCells, S.zs]
      have hfit : l * E.sz + (xs.length - l) * E.sz ≤ cur.size := by
        rw [h3, ← Nat.add_mul]; exact Nat.mul_le_mul_right _ (by omega)
      have hzo : ∀ u ∈ (Builtin.zeroCells z.cells (xs.length - l)).toList, u.oneCell' = true := by
        intro u hu
        simp only [Builtin.zeroCells, Array.toList_map, List.mem_map] at hu
        obtain ⟨j, _, rfl⟩ := hu
        have hlt : j % z.cells.size < z.cells.size := Nat.mod_lt _ (by rw [S.zs]; exact S.pos)
        refine hz1 _ ?_
        rw [getElem!_pos z.cells _ hlt]
        exact Array.getElem_mem_toList hlt
      obtain ⟨hst, hs2⟩ := hs1.storeCells (P := P) (off := l * E.sz) (by rw [hzc]; exact hfit) hzo
      have hkl : (xs.take l).length = l := by rw [List.length_take]; omega
      have hs3 : Sat e (HP.rows T E (.slice (some ⟨g, 0, none⟩) l cap) (xs.take l) :: L) (w.setRow g (laid cur (l * E.sz) (Builtin.zeroCells z.cells (xs.length - l)).toList)) := by
        refine Sat.rows_shut (cs := cs.take (l * E.sz)) ?_ (El.rds_part l hl hr).1
        rw [hkl]
        refine hs2.row_shut (by omega) h2 (by rw [laid_size (by rw [hzc]; exact hfit), h3]) ?_
        have hls : l * E.sz ≤ cur.toList.length := by rw [Array.length_toList, h3]; exact Nat.mul_le_mul_right _ (by omega)
        have hlx : l * E.sz ≤ xs.length * E.sz := Nat.mul_le_mul_right _ hl
        rw [← h4, List.take_take, Nat.min_eq_left hlx]
        simp only [laid, List.append_assoc]
        rw [List.take_append_of_le_length (by rw [List.length_take]; omega), List.take_take, Nat.min_self]
      refine wpList_val hg ?_ (h _ ⟨e, hle, hs3⟩)
      have hzw : (zeroValue T).run P w = .ok z w := by simp [zeroValue, typeInfo, hi', hz]
      obtain ⟨m, hm⟩ : ∃ m, xs.length - l = m + 1 := ⟨xs.length - l - 1, by omega⟩
      simp only [execOp, ho, resolve, invoke, builtin]
      rw [hm] at hx hst ⊢
      simp [hx, Builtin.clear_, run_underlying S.ht, hzw, hst]

/-! maps -/
variable {κ β : Type} {ek : κ → Value} {ok : κ → Prop} {ev : β → Value} {k el : TypeId} {m : Nat} {kvs : List (κ × β)}
theorem wpList_makeMap_st (hg : o.guard = none) (t : TypeId) (ho : o.op = .makeMap t none) (ek : κ → Value) (ok : κ → Prop) (ev : β → Value) (hs : St b L w)
    (h : ∀ m w', St b (HP.map ek ok ev m ([] : List (κ × β)) :: L) w' → wpList P ops Q rest (a.put o.dst (.map (some m))) w') : wpList P ops Q (o :: rest) a w := by
  obtain ⟨e, hle, hs⟩ := hs
  exact wpList_makeMap_sl hg t ho ek ok ev hs (fun m w' h' => h m w' ⟨e, hle, h'⟩)
theorem wpList_mapUpdate_st [DecidableEq κ] (hg : o.guard = none) (t : TypeId) (mo i v : Operand) (ho : o.op = .mapUpdate t mo i v) (K : KeyOk P k ek ok) (ht : P.underlying t = some (.map k el)) (q : κ) (x : β) (hm : a.eval mo = .map (some m)) (hi : a.eval i = ek q) (hq : ok q) (hv : a.eval v = ev x)
    (hs : St b (HP.map ek ok ev m kvs :: L) w) (h : ∀ w', St b (HP.map ek ok ev m (kput kvs q x) :: L) w' → wpList P ops Q rest (a.put o.dst undef) w') : wpList P ops Q (o :: rest) a w := by
  obtain ⟨e, hle, hs⟩ := hs
  exact wpList_mapUpdate_sl hg t mo i v ho K ht hm q hi hq x hv hs (fun w' h' => h w' ⟨e, hle, h'⟩)
theorem wpList_insert_st [DecidableEq κ] (hg : o.guard = none) (t : TypeId) (mo i v : Operand) (ho : o.op = .insert t mo i v) (K : KeyOk P k ek ok) (ht : P.underlying t = some (.map k el)) (q : κ) (x : β) (hm : a.eval mo = .map (some m)) (hi : a.eval i = ek q) (hq : ok q) (hv : a.eval v = ev x)
    (hs : St b (HP.map ek ok ev m kvs :: L) w) (h : ∀ w', St b (HP.map ek ok ev m (kput kvs q x) :: L) w' → wpList P ops Q rest (a.put o.dst undef) w') : wpList P ops Q (o :: rest) a w := by
  obtain ⟨e, hle, hs⟩ := hs
  obtain ⟨w', hrun, hs'⟩ := run_mapUpdate K hs ht q hq x
  exact wpList_unit hg (by simp only [execOp, ho, hm, hi, hv, Sem.run_bind, hrun, Result.andThen_ok]; rfl) (h w' ⟨e, hle, hs'⟩)
theorem wpList_delete_st [DecidableEq κ] (hg : o.guard = none) (t q' : TypeId) (mo i : Operand) (ho : o.op = .call { callee := .builtin .delete, args := #[mo, i], argTypes := #[t, q'] }) (K : KeyOk P k ek ok) (ht : P.underlying t = some (.map k el)) (q : κ) (hm : a.eval mo = .map (some m)) (hi : a.eval i = ek q) (hq : ok q)
    (hs : St b (HP.map ek ok ev m kvs :: L) w) (h : ∀ w', St b (HP.map ek ok ev m (kdel kvs q) :: L) w' → wpList P ops Q rest (a.put o.dst (.tuple #[])) w') : wpList P ops Q (o :: rest) a w := by
  obtain ⟨e, hle, hs⟩ := hs
  exact wpList_delete_sl hg t q' mo i ho K ht hm q hi hq hs (fun w' h' => h w' ⟨e, hle, h'⟩)
theorem wpList_clear_st (hg : o.guard = none) (t : TypeId) (mo : Operand) (ho : o.op = .call { callee := .builtin .clear, args := #[mo], argTypes := #[t] }) (ht : P.underlying t = some (.map k el)) (hm : a.eval mo = .map (some m))
    (hs : St b (HP.map ek ok ev m kvs :: L) w) (h : ∀ w', St b (HP.map ek ok ev m ([] : List (κ × β)) :: L) w' → wpList P ops Q rest (a.put o.dst (.tuple #[])) w') : wpList P ops Q (o :: rest) a w := by
  obtain ⟨e, hle, hs⟩ := hs
  exact wpList_clear_sl hg t mo ho ht hm hs (fun w' h' => h w' ⟨e, hle, h'⟩)

theorem St.lookup [DecidableEq κ] (K : KeyOk P k ek ok) (hs : St b L w) (hm : HP.map ek ok ev m kvs ∈ L) {t : TypeId} (ht : P.underlying t = some (.map k el)) {z : Value} (hz : (zeroValue el).run P w = .ok z w) (q : κ) (hq : ok q) (c : Bool) :
    (Instr.lookup t (.map (some m)) (ek q) c).run P w = .ok (if c then .tuple #[((kget kvs q).map ev).getD z, .bool (kget kvs q).isSome] else ((kget kvs q).map ev).getD z) w := by
  obtain ⟨e, _, hs⟩ := hs
  obtain ⟨L', hs⟩ := hs.mem_front hm
  exact run_lookup K hs ht hz q hq c
theorem St.len_map (hs : St b L w) (hm : HP.map ek ok ev m kvs ∈ L) {t ty : TypeId} (ht : P.underlying t = some (.map k el)) : (Builtin.len_ #[t] ty #[.map (some m)]).run P w = .ok (.int .i64 kvs.length) w := by
  obtain ⟨e, _, hs⟩ := hs
  obtain ⟨L', hs⟩ := hs.mem_front hm
  exact run_len_map hs ht

/-- A map that never turns. -/
def HP.pmap {κ β : Type} (ek : κ → Value) (ok : κ → Prop) (ev : β → Value) (m : Nat) (kvs : List (κ × β)) : HP :=
  ⟨fun e _ => (HP.map ek ok ev m kvs).p e e.h, fun k ⟨es, clock, h1, h2⟩ => ⟨es, clock, k.h _ _ h1, h2⟩⟩
theorem St.map_persist (hs : St b (HP.map ek ok ev m kvs :: L) w) : St b (HP.pmap ek ok ev m kvs :: L) w := by
  obtain ⟨e, hle, hs⟩ := hs
  obtain ⟨es, clock, h1, h2, h3, hs⟩ := hs.map_open
  obtain ⟨e', hle', hat, hs⟩ := hs.persist
  exact ⟨e', hle.trans hle', hs.lay (fun _ => ⟨es, clock, hat, h1, h2, h3⟩)⟩
theorem Sat.unpersist {e : Env} {g : Nat} {o : Obj} (h : Sat e L w) (hb : e.h g = some o) : ∃ e0, Sat e0 [HP.blk g o] w := by
  refine ⟨{ e with h := fun k => if k = g then none else e.h k }, h.os, h.output, h.tape, fun k x hx => ?_, fun k => if k = g then some 0 else none, fun k i hk => ?_, fun i R hR => ?_⟩
  · simp only at hx
    split at hx
    · cases hx
    · exact h.fixed k x hx
  · simp only at hk
    split at hk
    · rename_i hkg; subst hkg; exact ⟨by simp, h.lt hb⟩
    · cases hk
  · cases i with
    | zero =>
      simp at hR; subst hR
      show rst w _ 0 g = some o
      unfold rst; simp [h.fixed _ _ hb]
    | succ i => simp at hR
theorem St.plookup [DecidableEq κ] (K : KeyOk P k ek ok) (hs : St b L w) (hm : HP.pmap ek ok ev m kvs ∈ L) {t : TypeId} (ht : P.underlying t = some (.map k el)) {z : Value} (hz : (zeroValue el).run P w = .ok z w) (q : κ) (hq : ok q) (c : Bool) :
    (Instr.lookup t (.map (some m)) (ek q) c).run P w = .ok (if c then .tuple #[((kget kvs q).map ev).getD z, .bool (kget kvs q).isSome] else ((kget kvs q).map ev).getD z) w := by
  obtain ⟨e, _, hs⟩ := hs
  obtain ⟨_, es, clock, h1, h2, h3, h4⟩ := hs.mem_p hm
  obtain ⟨e0, hs0⟩ := hs.unpersist h1
  exact run_lookup K (hs0.map_shut h2 h3 h4) ht hz q hq c

/-! a map that is ranged over: no entry is laid into it on the way -/
/-- Block m is a map, block r an iterator over it: these are left; this one came last. -/
def HP.rng {κ β : Type} (ek : κ → Value) (ok : κ → Prop) (ev : β → Value) (m r : Nat) (kvs left : List (κ × β)) (last : Option (κ × β)) : HP :=
  ⟨fun _ f => ∃ es clock seen, f m = some (.map es clock) ∧ es.toList.map (fun x => (x.key, x.val)) = kvs.map (fun p => (ek p.1, ev p.2)) ∧ Stamped es clock ∧ (∀ p ∈ kvs, ok p.1) ∧
    f r = some (.mapIter (some m) clock seen clock) ∧ (es.toList.filter (fun x => !seen.contains x.born)).map (fun x => (x.key, x.val)) = left.map (fun p => (ek p.1, ev p.2)) ∧
    (∀ p, last = some p → ∃ (x : MapEntry) (s : Array Nat), x ∈ es.toList ∧ seen = s.push x.born ∧ x.key = ek p.1 ∧ x.val = ev p.2), fun _ h => h⟩
theorem Sat.rng_open {e : Env} {r : Nat} {left : List (κ × β)} {last : Option (κ × β)} (hs : Sat e (HP.rng ek ok ev m r kvs left last :: L) w) : ∃ es clock seen, es.toList.map (fun x => (x.key, x.val)) = kvs.map (fun p => (ek p.1, ev p.2)) ∧ Stamped es clock ∧ (∀ p ∈ kvs, ok p.1) ∧
    (es.toList.filter (fun x => !seen.contains x.born)).map (fun x => (x.key, x.val)) = left.map (fun p => (ek p.1, ev p.2)) ∧ (∀ p, last = some p → ∃ (x : MapEntry) (s : Array Nat), x ∈ es.toList ∧ seen = s.push x.born ∧ x.key = ek p.1 ∧ x.val = ev p.2) ∧
    Sat e (HP.blk r (.mapIter (some m) clock seen clock) :: HP.blk m (.map es clock) :: L) w := by
  obtain ⟨⟨es, clock, seen⟩, hq, h'⟩ := hs.tell (ι := Array MapEntry × Nat × Array Nat)
    (q := fun x => x.1.toList.map (fun x => (x.key, x.val)) = kvs.map (fun p => (ek p.1, ev p.2)) ∧ Stamped x.1 x.2.1 ∧ (∀ p ∈ kvs, ok p.1) ∧
      (x.1.toList.filter (fun y => !x.2.2.contains y.born)).map (fun x => (x.key, x.val)) = left.map (fun p => (ek p.1, ev p.2)) ∧ (∀ p, last = some p → ∃ (y : MapEntry) (s : Array Nat), y ∈ x.1.toList ∧ x.2.2 = s.push y.born ∧ y.key = ek p.1 ∧ y.val = ev p.2))
    (Q := fun x => HP.star (HP.blk m (.map x.1 x.2.1)) (HP.blk r (.mapIter (some m) x.2.1 x.2.2 x.2.1))) (fun f hf => by
      obtain ⟨es, clock, seen, h1, h2, h3, h4, h5, h6, h7⟩ := hf
      refine ⟨(es, clock, seen), ⟨h2, h3, h4, h6, h7⟩, fun k => decide (k = m), by simpa [HP.blk] using h1, ?_⟩
      have hne : ¬ r = m := by intro hrm; subst hrm; rw [h5] at h1; cases h1
      simpa [HP.blk, hne] using h5)
  obtain ⟨q1, q2, q3, q4, q5⟩ := hq
  exact ⟨es, clock, seen, q1, q2, q3, q4, q5, h'.star_elim.swap⟩

theorem Sat.rng_shut {e : Env} {r : Nat} {left : List (κ × β)} {last : Option (κ × β)} {es : Array MapEntry} {clock : Nat} {seen : Array Nat} (h1 : es.toList.map (fun x => (x.key, x.val)) = kvs.map (fun p => (ek p.1, ev p.2))) (h2 : Stamped es clock) (h3 : ∀ p ∈ kvs, ok p.1)
    (h4 : (es.toList.filter (fun x => !seen.contains x.born)).map (fun x => (x.key, x.val)) = left.map (fun p => (ek p.1, ev p.2))) (h5 : ∀ p, last = some p → ∃ (x : MapEntry) (s : Array Nat), x ∈ es.toList ∧ seen = s.push x.born ∧ x.key = ek p.1 ∧ x.val = ev p.2)
    (hs : Sat e (HP.blk r (.mapIter (some m) clock seen clock) :: HP.blk m (.map es clock) :: L) w) : Sat e (HP.rng ek ok ev m r kvs left last :: L) w := by
  refine (Sat.star_intro hs).head (fun f hf => ?_)
  obtain ⟨s, hf1, hf2⟩ := hf
  simp only [HP.blk] at hf1 hf2
  refine ⟨es, clock, seen, ?_, h1, h2, h3, ?_, h4, h5⟩
  · split at hf2
    · cases hf2
    · exact hf2
  · split at hf1
    · exact hf1
    · cases hf1

/-- The steps of a range over a map. -/
theorem St.rng_start (hs : St b (HP.map ek ok ev m kvs :: L) w) {t k el : TypeId} (ht : P.underlying t = some (.map k el)) :
    ∃ w', (Instr.range t (.map (some m))).run P w = .ok (.pointer (some ⟨w.heap.size, 0, none⟩)) w' ∧ St b (HP.rng ek ok ev m w.heap.size kvs kvs none :: L) w' := by
  obtain ⟨e, hle, hs⟩ := hs
  obtain ⟨es, clock, h1, h2, h3, hs⟩ := hs.map_open
  refine ⟨w.alloc (.mapIter (some m) clock #[] clock), run_range_map w t k el m es clock ht hs.at, e, hle, ?_⟩
  refine Sat.rng_shut h1 h2 h3 ?_ (fun p hp => by cases hp) (hs.alloc (.mapIter (some m) clock #[] clock))
  rw [← h1]; congr 1; exact List.filter_eq_self.2 (fun x _ => by simp)

theorem filter_erase : ∀ {l : List MapEntry} {i : Nat} {x : MapEntry}, (l.map (·.born)).Nodup → l[i]? = some x → l.filter (fun y => !(y.born == x.born)) = l.eraseIdx i
  | [], _, _, _, h => by simp at h
  | y :: l, 0, x, hn, h => by
    simp at h; subst h
    rw [List.map_cons, List.nodup_cons] at hn
    rw [List.filter_cons, if_neg (by simp), List.eraseIdx_cons_zero]
    refine List.filter_eq_self.2 (fun z hz => ?_)
    have : z.born ≠ y.born := fun he => hn.1 (by rw [← he]; exact List.mem_map_of_mem hz)
    simp [this]
  | y :: l, i + 1, x, hn, h => by
    rw [List.map_cons, List.nodup_cons] at hn
    have hx : l[i]? = some x := by simpa using h
    have hm : x ∈ l := List.mem_of_getElem? hx
    have : y.born ≠ x.born := fun he => hn.1 (by rw [he]; exact List.mem_map_of_mem hm)
    rw [List.filter_cons, if_pos (by simp [this]), List.eraseIdx_cons_succ, filter_erase hn.2 hx]
theorem map_erase {γ δ : Type} (g : γ → δ) : ∀ (l : List γ) (i : Nat), (l.eraseIdx i).map g = (l.map g).eraseIdx i
  | [], _ => by simp
  | _ :: _, 0 => rfl
  | x :: l, i + 1 => by simp [map_erase g l i]

theorem St.rng_next {r : Nat} {left : List (κ × β)} {last : Option (κ × β)} (hs : St b (HP.rng ek ok ev m r kvs left last :: L) w) (ty : TypeId) :
    (left = [] ∧ (Instr.next (.pointer (some ⟨r, 0, none⟩)) false ty).run P w = .ok (.tuple #[.bool false]) w) ∨
    ∃ i p w', left[i]? = some p ∧ (Instr.next (.pointer (some ⟨r, 0, none⟩)) false ty).run P w = .ok (.tuple #[.bool true, ek p.1, ev p.2]) w' ∧ St b (HP.rng ek ok ev m r kvs (left.eraseIdx i) (some p) :: L) w' := by
  obtain ⟨e, hle, hs⟩ := hs
  obtain ⟨es, clock, seen, h1, h2, h3, h4, h5, hs⟩ := hs.rng_open
  have hb : w.heap[m]? = some (.map es clock) := hs.swap.at
  rcases run_next_at (P := P) w ty r m clock clock seen es clock hs.at hb h2.1 (Nat.le_refl _) with ⟨h0, hrun⟩ | ⟨x, hx, w1, hw1, hrun⟩
  · left
    refine ⟨?_, hrun⟩
    have : (leftOf es seen).toList = es.toList.filter (fun x => !seen.contains x.born) := by simp [leftOf]
    have hl : (es.toList.filter (fun x => !seen.contains x.born)).length = 0 := by rw [← this]; simpa using h0
    rw [List.eq_nil_of_length_eq_zero hl] at h4
    exact List.map_eq_nil_iff.1 h4.symm
  · right
    have hL : (leftOf es seen).toList = es.toList.filter (fun x => !seen.contains x.born) := by simp [leftOf]
    rw [hL] at hx
    obtain ⟨i, hi⟩ := List.mem_iff_getElem?.1 hx
    have hp := congrArg (·[i]?) h4
    simp only [List.getElem?_map, hi, Option.map_some] at hp
    cases hli : left[i]? with
    | none => rw [hli] at hp; cases hp
    | some p =>
      rw [hli] at hp
      simp only [Option.map_some, Option.some.injEq, Prod.mk.injEq] at hp
      refine ⟨i, p, _, hli, by rw [hrun, hp.1, hp.2], e, hle, ?_⟩
      have hs1 : Sat e (HP.blk r (.mapIter (some m) clock seen clock) :: HP.blk m (.map es clock) :: L) w1 := by
        rcases hw1 with rfl | rfl
        · exact hs
        · exact hs.drew
      refine Sat.rng_shut h1 h2 h3 ?_ (fun q hq => ?_) (hs1.setObj (.mapIter (some m) clock (seen.push x.born) clock))
      · rw [map_erase, ← h4, ← map_erase]
        congr 1
        have hn : ((es.toList.filter (fun x => !seen.contains x.born)).map (·.born)).Nodup := (h2.2.1).sublist ((List.filter_sublist).map _)
        rw [← filter_erase hn hi, List.filter_filter]
        refine List.filter_congr (fun z _ => ?_)
        simp only [Array.contains_push]
        rw [Bool.eq_iff_iff]; simp
        constructor <;> (rintro ⟨h1, h2⟩; exact ⟨by first | exact h2 | exact fun e => h2 e.symm, by first | exact h1 | exact fun e => h1 e.symm⟩)
      · cases hq
        exact ⟨x, seen, (List.mem_filter.1 hx).1, rfl, hp.1, hp.2⟩

theorem St.rng_entry {r : Nat} {left : List (κ × β)} {p : κ × β} (hs : St b (HP.rng ek ok ev m r kvs left (some p) :: L) w) : (Instr.entry (.pointer (some ⟨r, 0, none⟩))).run P w = .ok (.tuple #[ek p.1, ev p.2]) w := by
  obtain ⟨e, hle, hs⟩ := hs
  obtain ⟨es, clock, seen, h1, h2, h3, h4, h5, hs⟩ := hs.rng_open
  obtain ⟨x, s, hx, rfl, hk, hv⟩ := h5 p rfl
  rw [run_entry_at w r m clock s es clock x hs.at hs.swap.at hx h2.2.1, hk, hv]

theorem St.rng_done {r : Nat} {left : List (κ × β)} {last : Option (κ × β)} (hs : St b (HP.rng ek ok ev m r kvs left last :: L) w) : St b (HP.map ek ok ev m kvs :: L) w :=
  hs.lift fun _ hs => by
    obtain ⟨es, clock, seen, h1, h2, h3, h4, h5, hs⟩ := hs.rng_open
    exact hs.drop.map_shut h1 h2 h3

theorem wpList_range_st (hg : o.guard = none) (x : Operand) (t : TypeId) (ho : o.op = .range t x) {k el : TypeId} (ht : P.underlying t = some (.map k el)) (hx : a.eval x = .map (some m)) (hs : St b (HP.map ek ok ev m kvs :: L) w)
    (h : ∀ r w', St b (HP.rng ek ok ev m r kvs kvs none :: L) w' → wpList P ops Q rest (a.put o.dst (.pointer (some ⟨r, 0, none⟩))) w') : wpList P ops Q (o :: rest) a w := by
  obtain ⟨w', hrun, hs'⟩ := hs.rng_start (P := P) ht
  exact wpList_val hg (by simp [execOp, ho, hx, hrun]) (h _ w' hs')
theorem wpList_next_st (hg : o.guard = none) (x : Operand) (ho : o.op = .next x false) {r : Nat} {left : List (κ × β)} {last : Option (κ × β)} (hx : a.eval x = .pointer (some ⟨r, 0, none⟩)) (hs : St b (HP.rng ek ok ev m r kvs left last :: L) w)
    (h0 : left = [] → wpList P ops Q rest (a.put o.dst (.tuple #[.bool false])) w)
    (h1 : ∀ i p w', left[i]? = some p → St b (HP.rng ek ok ev m r kvs (left.eraseIdx i) (some p) :: L) w' → wpList P ops Q rest (a.put o.dst (.tuple #[.bool true, ek p.1, ev p.2])) w') : wpList P ops Q (o :: rest) a w := by
  rcases hs.rng_next (P := P) o.type with ⟨hl, hrun⟩ | ⟨i, p, w', hi, hrun, hs'⟩
  · exact wpList_val hg (by simp [execOp, ho, hx, hrun]) (h0 hl)
  · exact wpList_val hg (by simp [execOp, ho, hx, hrun]) (h1 i p w' hi hs')

/-! structs and arrays -/
/-- A type of many cells; its zero. -/
structure AgT (P : Program) (T : TypeId) (zs : List Value) : Prop where
  zero : ∀ w, (zeroValue T).run P w = .ok (.agg zs.toArray) w
  desc : ∃ d, P.underlying T = some d ∧ aggB d = true
  size : (P.info? T).map (·.size) = some zs.length

theorem wpList_alloc_ag {zs : List Value} (hg : o.guard = none) (A : AgT P T zs) (ho : o.op = .alloc T) (hs : St b L w)
    (h : ∀ g w', St b (HP.blk g (.cells zs.toArray T) :: L) w' → wpList P ops Q rest (a.put o.dst (.pointer (some ⟨g, 0, none⟩))) w') : wpList P ops Q (o :: rest) a w := by
  obtain ⟨e, hle, hs⟩ := hs
  exact wpList_alloc_sl hg T ho (A.zero w) hs (fun g w' h' => h g w' ⟨e, hle, h'⟩)
theorem wpList_load_ag {zs cs : List Value} (hg : o.guard = none) (A : AgT P T zs) (x : Operand) (ho : o.op = .load T x) {g off : Nat} (hx : a.eval x = .pointer (some ⟨g, off, none⟩)) (hl : cs.length = zs.length) (hc : ∀ j u, cs[j]? = some u → w.cell? ⟨g, off + j, none⟩ = some u)
    (h : wpList P ops Q rest (a.put o.dst (.agg cs.toArray)) w) : wpList P ops Q (o :: rest) a w := by
  obtain ⟨d, hu, hd⟩ := A.desc
  exact wpList_load_agg hg T x ho hu hd (by rw [hl]; exact A.size) hx hc h
theorem wpList_store_ag {zs cs : List Value} (hg : o.guard = none) (A : AgT P T zs) (x y : Operand) (ho : o.op = .store T x y) {g : Nat} {c : Array Value} {U : TypeId} (hx : a.eval x = .pointer (some ⟨g, 0, none⟩)) (hy : a.eval y = .agg cs.toArray) (hl : cs.length = zs.length) (hc : c.size = cs.length) (h1 : ∀ v ∈ cs, v.oneCell' = true)
    (hs : St b (HP.blk g (.cells c U) :: L) w) (h : ∀ w', St b (HP.blk g (.cells cs.toArray U) :: L) w' → wpList P ops Q rest (a.put o.dst undef) w') : wpList P ops Q (o :: rest) a w := by
  obtain ⟨e, hle, hs⟩ := hs
  refine wpList_store_agg hg T x y ho (by rw [hl]; exact A.size) hx hy h1 hs (by omega) (fun w' h' => h w' ⟨e, hle, ?_⟩)
  rw [laid_whole hc] at h'
  exact h'
end
end Go.Proofs.YtcgnkloljfgiaaaGreatDoor
