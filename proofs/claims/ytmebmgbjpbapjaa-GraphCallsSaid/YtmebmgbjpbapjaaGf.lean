/-
  No program in sight: rows in order; sets of names; what one name leads to, kept as rows.
-/
import Derived.Test.YtmebmgbjpbapjaaGe
import Derived.Test.YtmebmgbjpbapjaaG7
namespace Go.Proofs.Ytmebmgbjpbapjaa
open Go.RowKit Go.Maps Go.MapKept

theorem bytesLess_iff : ∀ x y : Str, Op.bytesLess x y = true ↔ x < y
  | x, [] => by cases x <;> simp [Op.bytesLess]
  | [], _ :: _ => by simp [Op.bytesLess]
  | a :: x, b :: y => by
    have := bytesLess_iff x y
    simp only [Op.bytesLess, Bool.or_eq_true, Bool.and_eq_true, decide_eq_true_eq, beq_iff_eq, List.cons_lt_cons_iff, this]
theorem inc_iff {l : List Str} : Inc l ↔ l.Pairwise (· < ·) := by
  unfold Inc
  constructor <;> intro h <;> exact h.imp (fun {a b} hab => by first | exact (bytesLess_iff a b).1 hab | exact (bytesLess_iff a b).2 hab)
theorem str_irrefl (x : Str) : ¬ x < x := fun h => by have := (bytesLess_iff x x).2 h; rw [bytesLess_irrefl] at this; cases this
theorem Inc.nodup {l : List Str} (h : Inc l) : l.Nodup := (inc_iff.1 h).imp (fun {a b} hab he => by subst he; exact str_irrefl a hab)
theorem Inc.filter {l : List Str} (h : Inc l) (p : Str → Bool) : Inc (l.filter p) := List.Pairwise.filter p h
theorem mem_sortS {l : List Str} {x : Str} : x ∈ sortS l ↔ x ∈ l := (List.mergeSort_perm l _).mem_iff
theorem str_le_of_lt {x y : Str} (h : x < y) : x ≤ y := List.le_of_lt h
theorem sortS_inc {l : List Str} (h : Inc l) : sortS l = l := by
  unfold sortS
  refine List.mergeSort_of_pairwise ((inc_iff.1 h).imp (fun {a b} hab => ?_))
  simpa using str_le_of_lt hab
theorem inc_sortS {l : List Str} (h : l.Nodup) : Inc (sortS l) := by
  have h1 : (sortS l).Pairwise (fun x y => decide (x ≤ y) = true) := by
    refine List.pairwise_mergeSort (fun a b c => ?_) (fun a b => ?_) l
    · simp only [decide_eq_true_eq]; exact fun x y => List.le_trans x y
    · simp only [Bool.or_eq_true, decide_eq_true_eq]; exact List.le_total a b
  have h2 : (sortS l).Nodup := (List.mergeSort_perm l _).nodup_iff.2 h
  refine inc_iff.2 ((h1.and h2).imp (fun {a b} hab => ?_))
  obtain ⟨p, q⟩ := hab
  simp only [decide_eq_true_eq] at p
  exact Decidable.byContradiction fun hn => q (List.le_antisymm p (List.not_lt.1 hn))
theorem Inc.ext : ∀ {l m : List Str}, Inc l → Inc m → (∀ x, x ∈ l ↔ x ∈ m) → l = m := by
  intro l m hl hm h
  have hp : l.Perm m := (List.perm_ext_iff_of_nodup hl.nodup hm.nodup).2 h
  exact List.Perm.eq_of_pairwise (fun a b _ _ h1 h2 => absurd (List.lt_trans h1 h2) (str_irrefl a)) (inc_iff.1 hl) (inc_iff.1 hm) hp

theorem keysOf_kput {β : Type} {kvs : List (Str × β)} {k x : Str} {v : β} : x ∈ keysOf (kput kvs k v) ↔ x ∈ keysOf kvs ∨ x = k := by
  induction kvs with
  | nil => simp [kput]
  | cons p r ih =>
    obtain ⟨j, u⟩ := p
    simp only [kput]
    split
    · rename_i h; subst h
      simp only [List.map_cons, List.mem_cons]
      constructor
      · rintro (h | h); exact Or.inl (Or.inl h); exact Or.inl (Or.inr h)
      · rintro ((h | h) | h); exact Or.inl h; exact Or.inr h; exact Or.inl h
    · simp only [List.map_cons, List.mem_cons, ih, or_assoc]
theorem kput_true {kvs : List (Str × Bool)} {k : Str} (h : ∀ p ∈ kvs, p.2 = true) : ∀ p ∈ kput kvs k true, p.2 = true := by
  intro p hp
  rcases kput_mem hp with hp | rfl
  · exact h p hp
  · rfl
theorem putAll_true (l : List Str) : ∀ {kvs : List (Str × Bool)}, (∀ p ∈ kvs, p.2 = true) → ∀ p ∈ putAll kvs l, p.2 = true := by
  induction l with
  | nil => intro kvs h; exact h
  | cons x l ih => intro kvs h; exact ih (kput_true h)
theorem keysOf_putAll (l : List Str) : ∀ {kvs : List (Str × Bool)} {x : Str}, x ∈ keysOf (putAll kvs l) ↔ x ∈ keysOf kvs ∨ x ∈ l := by
  induction l with
  | nil => intro kvs x; simp [putAll]
  | cons y l ih => intro kvs x; show x ∈ keysOf (putAll (kput kvs y true) l) ↔ _; rw [ih, keysOf_kput, List.mem_cons, or_assoc]
theorem mem_putAll {l : List Str} {x : Str} : x ∈ keysOf (putAll [] l) ↔ x ∈ l := by rw [keysOf_putAll]; simp
theorem has_putAll (l : List Str) (x : Str) : has (putAll [] l) x = decide (x ∈ l) := by
  rw [Bool.eq_iff_iff, has_iff (putAll_true l (by simp)), mem_putAll]; simp
theorem kput_len {β : Type} (kvs : List (Str × β)) (k : Str) (v : β) : (kput kvs k v).length ≤ kvs.length + 1 := by
  induction kvs with
  | nil => simp [kput]
  | cons p r ih => simp only [kput]; split <;> simp; omega
theorem putAll_len (l : List Str) : ∀ kvs : List (Str × Bool), (putAll kvs l).length ≤ kvs.length + l.length := by
  induction l with
  | nil => intro kvs; simp [putAll]
  | cons x l ih => intro kvs; have := ih (kput kvs x true); have := kput_len kvs x true; show (putAll (kput kvs x true) l).length ≤ _; simp; omega
theorem putAll_nodup (l : List Str) : ∀ {kvs : List (Str × Bool)}, (keysOf kvs ++ l).Nodup → keysOf (putAll kvs l) = keysOf kvs ++ l := by
  induction l with
  | nil => intro kvs _; simp [putAll]
  | cons x l ih =>
    intro kvs h
    have hx : x ∉ keysOf kvs := fun hx => by
      rw [List.nodup_append] at h
      exact h.2.2 x hx x (by simp) rfl
    have hk : kput kvs x true = kvs ++ [(x, true)] := kput_none (kget_none.2 hx)
    show keysOf (putAll (kput kvs x true) l) = _
    rw [ih (by rw [hk]; simpa [keysOf] using h), hk]; simp [keysOf]
theorem putAll_inc {l : List Str} (h : l.Nodup) : keysOf (putAll [] l) = l := by rw [putAll_nodup l (by simpa using h)]; rfl
theorem putAll_snoc (kvs : List (Str × Bool)) (l : List Str) (x : Str) : putAll kvs (l ++ [x]) = kput (putAll kvs l) x true := by simp [putAll]
theorem nodup_kput {β : Type} {kvs : List (Str × β)} {k : Str} {v : β} (h : (keysOf kvs).Nodup) : (keysOf (kput kvs k v)).Nodup := by
  induction kvs with
  | nil => simp [kput]
  | cons p r ih =>
    obtain ⟨j, u⟩ := p
    simp only [List.map_cons, List.nodup_cons] at h
    simp only [kput]
    split
    · rename_i hj; subst hj; simp only [List.map_cons, List.nodup_cons]; exact h
    · rename_i hj
      simp only [List.map_cons, List.nodup_cons]
      refine ⟨fun hm => ?_, ih h.2⟩
      rcases keysOf_kput.1 hm with hm | hm
      · exact h.1 hm
      · exact hj hm
theorem nodup_putAll (l : List Str) : ∀ {kvs : List (Str × Bool)}, (keysOf kvs).Nodup → (keysOf (putAll kvs l)).Nodup := by
  induction l with
  | nil => intro kvs h; exact h
  | cons x l ih => intro kvs h; exact ih (nodup_kput h)

/-- What each name leads to, kept by names. -/
def adjL (es : List (Str × Str)) : List (Str × List Str) := es.foldl (fun m e => kput m e.1 ((kget m e.1).getD [] ++ [e.2])) []
theorem adjL_snoc (es : List (Str × Str)) (x : Str × Str) : adjL (es ++ [x]) = kput (adjL es) x.1 ((kget (adjL es) x.1).getD [] ++ [x.2]) := by simp [adjL]
theorem adjL_get (es : List (Str × Str)) (q : Str) : (kget (adjL es) q).getD [] = edgesN es q := by
  have key : ∀ (n : Nat) (es : List (Str × Str)), es.length = n → (kget (adjL es) q).getD [] = edgesN es q := by
    intro n
    induction n with
    | zero => intro es h; rw [List.eq_nil_of_length_eq_zero h]; rfl
    | succ n ih =>
      intro es h
      have hne : es ≠ [] := by intro h0; rw [h0] at h; cases h
      obtain ⟨r, x, rfl⟩ : ∃ r x, es = r ++ [x] := ⟨es.dropLast, es.getLast hne, (List.dropLast_concat_getLast hne).symm⟩
      have hr := ih r (by simpa using h)
      rw [adjL_snoc]
      by_cases hq : x.1 = q
      · rw [← hq] at hr ⊢
        rw [kget_kput, if_pos rfl, hr]
        simp [edgesN]
      · rw [kget_kput, if_neg hq, hr]
        simp [edgesN, hq]
  exact key _ es rfl
theorem edgesN_len (es : List (Str × Str)) (q : Str) : (edgesN es q).length ≤ es.length := by
  unfold edgesN; rw [List.length_map]; exact List.length_filter_le _ _
end Go.Proofs.Ytmebmgbjpbapjaa
