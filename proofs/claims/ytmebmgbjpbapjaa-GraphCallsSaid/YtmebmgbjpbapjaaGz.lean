/-
  No program in sight: the table of edges; which part a name is in.
-/
import Derived.Test.YtmebmgbjpbapjaaGy
import Derived.Test.YtmebmgbjpbapjaaGx
import Derived.Test.YtmebmgbjpbapjaaGh
namespace Go.Proofs.Ytmebmgbjpbapjaa
open Go.RowKit Go.Maps Go.MapKept

theorem meas_step {n k : Nat} (h : k < n) : n - (intOf (.int .i64 ((k : Int) + 1))).toNat < n - (intOf (.int .i64 (k : Int))).toNat := by simp [intOf]; omega
/-- A name by its number. -/
def nmN (i : Nat) : Str := nameS (i : Int)
theorem nmN_inj {i j : Nat} (hi : i ≤ 100) (hj : j ≤ 100) (h : nmN i = nmN j) : i = j := by
  have h1 := nameB_val (k := (i : Int)) (by omega) (by omega)
  have h2 := nameB_val (k := (j : Int)) (by omega) (by omega)
  have h3 : nameB (i : Int) = nameB (j : Int) := by
    have : [nameB (i : Int)] = [nameB (j : Int)] := h
    simpa using this
  rw [h3, ← h2] at h1
  simp only [Value.int.injEq, true_and] at h1
  omega
theorem nmN_byte {i : Nat} (hi : i ≤ 100) : ((nameB (i : Int)).toNat : Int) = 97 + i := by
  have := nameB_val (k := (i : Int)) (by omega) (by omega)
  simp only [B8, Value.int.injEq, true_and] at this
  omega
theorem mem_namesL {m : Nat} {x : Str} : x ∈ namesL m ↔ ∃ i, i < m ∧ x = nmN i := by
  unfold namesL
  simp only [List.mem_map, List.mem_range]
  exact ⟨fun ⟨i, h1, h2⟩ => ⟨i, h1, h2.symm⟩, fun ⟨i, h1, h2⟩ => ⟨i, h1, h2.symm⟩⟩

/-- Edges by their numbers. -/
def idxN (m : Nat) (ns : List Int) : List (Nat × Nat) := (ns.take 40).map (fun x => ((x % (m : Int)).toNat, ((x.tdiv 16) % (m : Int)).toNat))
def pairNm (p : Nat × Nat) : Str × Str := (nmN p.1, nmN p.2)
theorem pairsN_idx {m : Nat} (hm : 0 < m) (ns : List Int) : pairsN (m : Int) ns = (idxN m ns).map pairNm := by
  unfold pairsN idxN
  rw [List.map_map]
  refine List.map_congr_left (fun x _ => ?_)
  have h1 := Int.emod_nonneg x (show (m : Int) ≠ 0 by omega)
  have h2 := Int.emod_nonneg (x.tdiv 16) (show (m : Int) ≠ 0 by omega)
  simp only [pairN, Function.comp, pairNm, nmN, Int.toNat_of_nonneg h1, Int.toNat_of_nonneg h2]
theorem idxN_lt {m : Nat} (hm : 0 < m) (ns : List Int) : ∀ p ∈ idxN m ns, p.1 < m ∧ p.2 < m := by
  intro p hp
  unfold idxN at hp
  obtain ⟨x, _, rfl⟩ := List.mem_map.1 hp
  have h1 := Int.emod_lt_of_pos x (show (0 : Int) < m by omega)
  have h2 := Int.emod_lt_of_pos (x.tdiv 16) (show (0 : Int) < m by omega)
  have h3 := Int.emod_nonneg x (show (m : Int) ≠ 0 by omega)
  have h4 := Int.emod_nonneg (x.tdiv 16) (show (m : Int) ≠ 0 by omega)
  refine ⟨?_, ?_⟩ <;> dsimp only <;> omega

def edgeStep (m : Nat) (M : Mx) (p : Nat × Nat) : Mx := M.set p.1 p.2 ((decide (p.1 < m) && decide (p.2 < m)) || M p.1 p.2)
def edgeM (m : Nat) (l : List (Nat × Nat)) : Mx := l.foldl (edgeStep m) (diagM m)
theorem edgeM_succ {m : Nat} {l : List (Nat × Nat)} {k : Nat} (hk : k < l.length) {a c : Nat} (h : l[k] = (a, c)) : (edgeM m (l.take k)).set a c ((decide (a < m) && decide (c < m)) || edgeM m (l.take k) a c) = edgeM m (l.take (k + 1)) := by
  rw [List.take_succ_eq_append_getElem hk, h]
  unfold edgeM
  rw [List.foldl_append]; rfl
theorem foldl_edge {m : Nat} : ∀ (l : List (Nat × Nat)) (M : Mx) (i j : Nat), (l.foldl (edgeStep m) M) i j = true ↔ M i j = true ∨ ((i, j) ∈ l ∧ i < m ∧ j < m)
  | [], M, i, j => by simp
  | p :: l, M, i, j => by
    rw [List.foldl_cons, foldl_edge l]
    unfold edgeStep Mx.set
    by_cases h : i = p.1 ∧ j = p.2
    · obtain ⟨rfl, rfl⟩ := h
      rw [if_pos ⟨rfl, rfl⟩]
      simp
      constructor
      · rintro ((h | h) | h)
        · exact Or.inr h
        · exact Or.inl h
        · exact Or.inr h.2
      · rintro (h | h)
        · exact Or.inl (Or.inr h)
        · exact Or.inl (Or.inl h)
    · rw [if_neg h]
      have : (i, j) ≠ p := fun e => h (by rw [← e]; exact ⟨rfl, rfl⟩)
      simp [this]
theorem edgeM_tab {m : Nat} (hm : m ≤ 20) {l : List (Nat × Nat)} (hl : ∀ p ∈ l, p.1 < m + 2 ∧ p.2 < m + 2) : TabP m nmN (edgesN (inEdges (namesL m) (l.map pairNm))) 0 (edgeM m l) := by
  refine ⟨fun i j hi hj ht => ?_, fun i hi => ?_, fun i j hi hj he => ?_, fun k hk => by omega⟩
  · rcases (foldl_edge l (diagM m) i j).1 ht with h | ⟨h, _⟩
    · simp [diagM] at h
      rw [h.1]; exact Rch.refl _ _
    · exact (Rch.refl _ _).step (mem_inEdges.2 ⟨List.mem_map.2 ⟨(i, j), h, rfl⟩, mem_namesL.2 ⟨i, hi, rfl⟩, mem_namesL.2 ⟨j, hj, rfl⟩⟩)
  · exact (foldl_edge l (diagM m) i i).2 (Or.inl (by simp [diagM, hi]))
  · obtain ⟨⟨a, c⟩, hp, he2⟩ := List.mem_map.1 (mem_inEdges.1 he).1
    have := hl _ hp
    simp only [pairNm, Prod.mk.injEq] at he2
    have e1 := nmN_inj (by dsimp only at this; omega) (by omega) he2.1
    have e2 := nmN_inj (by dsimp only at this; omega) (by omega) he2.2
    subst e1; subst e2
    exact (foldl_edge l (diagM m) _ _).2 (Or.inr ⟨hp, hi, hj⟩)
theorem tab_done {m : Nat} (hm : m ≤ 20) {es : List (Str × Str)} {T : Mx} (h : TabP m nmN (edgesN (inEdges (namesL m) es)) m T) {i j : Nat} (hi : i < m) (hj : j < m) : (T i j && T j i) = eqv (edgesN (inEdges (namesL m) es)) (nmN i) (nmN j) := by
  have hinj : ∀ i j, i < m → j < m → nmN i = nmN j → i = j := fun i j hi hj => nmN_inj (by omega) (by omega)
  have hout : ∀ x z, z ∈ edgesN (inEdges (namesL m) es) x → ∃ d, d < m ∧ z = nmN d := fun x z hz => mem_namesL.1 (mem_inEdges.1 hz).2.2
  rw [h.done hinj hout hi hj, h.done hinj hout hj hi]; rfl

/-- Name x is in part a, of those ahead of i, and k of part i. -/
def AtP (p : List (List Str)) (i k a : Nat) (x : Str) : Prop := ∃ P, p[a]? = some P ∧ ((a < i ∧ x ∈ P) ∨ (a = i ∧ x ∈ P.take k))
structure InP (p : List (List Str)) (m i k : Nat) (Z : List Int) : Prop where
  len : Z.length = m
  val : ∀ c, c < m → (Z[c]? = some (-1) ∧ ∀ a, ¬ AtP p i k a (nmN c)) ∨ (∃ a : Nat, Z[c]? = some (a : Int) ∧ AtP p i k a (nmN c))
theorem inP_start (p : List (List Str)) (m : Nat) : InP p m 0 0 (List.replicate m (-1)) := by
  refine ⟨by simp, fun c hc => Or.inl ⟨by rw [List.getElem?_replicate, if_pos hc], fun a => ?_⟩⟩
  rintro ⟨P, _, h | h⟩
  · omega
  · simp at h
theorem InP.row {p : List (List Str)} {m i k : Nat} {Z : List Int} (h : InP p m i k Z) {P : List Str} (hP : p[i]? = some P) (hk : k = P.length) : InP p m (i + 1) 0 Z := by
  have e : ∀ a x, AtP p i k a x ↔ AtP p (i + 1) 0 a x := by
    intro a x
    constructor
    · rintro ⟨Q, hQ, h | h⟩
      · exact ⟨Q, hQ, Or.inl ⟨by omega, h.2⟩⟩
      · exact ⟨Q, hQ, Or.inl ⟨by omega, List.mem_of_mem_take h.2⟩⟩
    · rintro ⟨Q, hQ, h | h⟩
      · by_cases ha : a < i
        · exact ⟨Q, hQ, Or.inl ⟨ha, h.2⟩⟩
        · have : a = i := by omega
          subst this
          rw [hP] at hQ; cases hQ
          exact ⟨P, hP, Or.inr ⟨rfl, by rw [List.take_of_length_le (by omega)]; exact h.2⟩⟩
      · simp at h
  exact ⟨h.len, fun c hc => (h.val c hc).imp (fun ⟨h1, h2⟩ => ⟨h1, fun a ha => h2 a ((e a _).2 ha)⟩) (fun ⟨a, h1, h2⟩ => ⟨a, h1, (e a _).1 h2⟩)⟩
theorem InP.step {p : List (List Str)} {m i k : Nat} {Z : List Int} (h : InP p m i k Z) (hm : m ≤ 20) {P : List Str} (hP : p[i]? = some P) (hk : k < P.length) {c : Nat} (hc : c < m) (hx : P[k] = nmN c) : InP p m i (k + 1) (Z.set c (i : Int)) := by
  have e : ∀ a x, AtP p i (k + 1) a x ↔ AtP p i k a x ∨ (a = i ∧ x = nmN c) := by
    intro a x
    constructor
    · rintro ⟨Q, hQ, h | ⟨rfl, h⟩⟩
      · exact Or.inl ⟨Q, hQ, Or.inl h⟩
      · rw [hP] at hQ; cases hQ
        rw [List.take_succ_eq_append_getElem hk, List.mem_append] at h
        rcases h with h | h
        · exact Or.inl ⟨P, hP, Or.inr ⟨rfl, h⟩⟩
        · simp at h; exact Or.inr ⟨rfl, by rw [h, hx]⟩
    · rintro (⟨Q, hQ, h | ⟨rfl, h⟩⟩ | ⟨rfl, rfl⟩)
      · exact ⟨Q, hQ, Or.inl h⟩
      · rw [hP] at hQ; cases hQ
        exact ⟨P, hP, Or.inr ⟨rfl, by rw [List.take_succ_eq_append_getElem hk]; exact List.mem_append_left _ h⟩⟩
      · exact ⟨P, hP, Or.inr ⟨rfl, by rw [List.take_succ_eq_append_getElem hk, hx]; simp⟩⟩
  refine ⟨by simp [h.len], fun d hd => ?_⟩
  by_cases hdc : d = c
  · subst hdc
    exact Or.inr ⟨i, by rw [List.getElem?_set]; simp [h.len, hd], (e i _).2 (Or.inr ⟨rfl, rfl⟩)⟩
  · rw [List.getElem?_set, if_neg (fun e => hdc e.symm)]
    refine (h.val d hd).imp (fun ⟨h1, h2⟩ => ⟨h1, fun a ha => ?_⟩) (fun ⟨a, h1, h2⟩ => ⟨a, h1, (e a _).2 (Or.inl h2)⟩)
    rcases (e a _).1 ha with h | ⟨_, h⟩
    · exact h2 a h
    · exact hdc (nmN_inj (by omega) (by omega) h)

/-- What is asked of parts. -/
structure RingP (p : List (List Str)) (m : Nat) (q : Str → Str → Bool) : Prop where
  sub : ∀ P ∈ p, ∀ x ∈ P, ∃ c, c < m ∧ x = nmN c
  pos : ∀ P ∈ p, 0 < P.length
  uniq : ∀ (a c : Nat) (P Q : List Str) (x : Str), p[a]? = some P → p[c]? = some Q → x ∈ P → x ∈ Q → a = c
  heads : ∀ (a c : Nat) (P Q : List Str) (x y : Str), a < c → p[a]? = some P → p[c]? = some Q → P[0]? = some x → Q[0]? = some y → Op.bytesLess x y = true
  inc : ∀ P ∈ p, Inc P
  all : ∀ c, c < m → ∃ P ∈ p, nmN c ∈ P
  same : ∀ (a c : Nat) (P Q : List Str) (x y : Str), p[a]? = some P → p[c]? = some Q → x ∈ P → y ∈ Q → (a = c ↔ q x y = true)
theorem ringP (m : Nat) (hinc : Inc (namesL m)) (nxt : Str → List Str) : RingP (partsR (eqv nxt) (namesL m).length (namesL m)) m (eqv nxt) := by
  have hr := eqv_refl nxt
  have hsy : ∀ x y, eqv nxt x y = true → eqv nxt y x = true := fun x y h => eqv_symm h
  have htr : ∀ x y z, eqv nxt x y = true → eqv nxt y z = true → eqv nxt x z = true := fun x y z h k => eqv_trans h k
  refine ⟨fun P hP x hx => mem_namesL.1 (parts_sub hr hsy htr hP hx), fun P hP => ?_, fun a c P Q x h1 h2 h3 h4 => parts_uniq hr hsy htr _ _ a c P Q x h1 h2 h3 h4, fun a c P Q x y h0 h1 h2 h3 h4 => parts_heads hr hsy htr _ _ hinc a c P Q x y h0 h1 h2 h3 h4, fun P hP => parts_inc hsy htr hinc hP, fun c hc => parts_cover hr _ _ (Nat.le_refl _) _ (mem_namesL.2 ⟨c, hc, rfl⟩), fun a c P Q x y h1 h2 h3 h4 => parts_same hr hsy htr h1 h2 h3 h4⟩
  exact (parts_ne hr hsy htr hP).1
theorem RingP.fresh {p : List (List Str)} {m : Nat} {q : Str → Str → Bool} (R : RingP p m q) (hm : m ≤ 20) {i k : Nat} {Z : List Int} (h : InP p m i k Z) {P : List Str} (hP : p[i]? = some P) (hk : k < P.length) {c : Nat} (hc : c < m) (hx : P[k] = nmN c) : Z[c]? = some (-1) := by
  rcases h.val c hc with ⟨h1, _⟩ | ⟨a, _, Q, hQ, h2 | ⟨rfl, h2⟩⟩
  · exact h1
  · have := R.uniq a i Q P (nmN c) hQ hP h2.2 (by rw [← hx]; exact List.getElem_mem hk)
    omega
  · rw [hP] at hQ; cases hQ
    have hn := (R.inc P (List.mem_of_getElem? hP)).nodup
    obtain ⟨j, hj, hj2⟩ := List.mem_iff_getElem.1 h2
    rw [List.getElem_take] at hj2
    have hjk : j < k := by rw [List.length_take] at hj; omega
    have := List.pairwise_iff_getElem.1 hn j k (by omega) hk hjk
    exact absurd (hj2.trans hx.symm) this
theorem RingP.last {p : List (List Str)} {m : Nat} {q : Str → Str → Bool} (R : RingP p m q) {Z : List Int} (h : InP p m p.length 0 Z) {c d : Nat} (hc : c < m) (hd : d < m) : ∃ a a' : Nat, Z[c]? = some (a : Int) ∧ Z[d]? = some (a' : Int) ∧ (a = a' ↔ q (nmN c) (nmN d) = true) := by
  have one : ∀ c, c < m → ∃ (a : Nat) (P : List Str), Z[c]? = some (a : Int) ∧ p[a]? = some P ∧ nmN c ∈ P := by
    intro c hc
    rcases h.val c hc with ⟨_, h2⟩ | ⟨a, h1, P, hP, h2 | ⟨rfl, h2⟩⟩
    · exfalso
      obtain ⟨P, hP, hx⟩ := R.all c hc
      obtain ⟨a, ha⟩ := List.getElem?_of_mem hP
      exact h2 a ⟨P, ha, Or.inl ⟨(List.getElem?_eq_some_iff.1 ha).1, hx⟩⟩
    · exact ⟨a, P, h1, hP, h2.2⟩
    · simp at h2
  obtain ⟨a, P, h1, h2, h3⟩ := one c hc
  obtain ⟨a', P', h1', h2', h3'⟩ := one d hd
  exact ⟨a, a', h1, h1', R.same a a' P P' _ _ h2 h2' h3 h3'⟩
theorem RingP.prev {p : List (List Str)} {m : Nat} {q : Str → Str → Bool} (R : RingP p m q) {i k : Nat} {P : List Str} (hP : p[i]? = some P) (hk : k + 1 < P.length) : Op.bytesLess P[k] P[k + 1] = true :=
  List.pairwise_iff_getElem.1 (R.inc P (List.mem_of_getElem? hP)) k (k + 1) (by omega) hk (by omega)
end Go.Proofs.Ytmebmgbjpbapjaa
