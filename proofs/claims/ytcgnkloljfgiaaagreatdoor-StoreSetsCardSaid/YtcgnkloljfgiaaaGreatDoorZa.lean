/-
  No program in sight: names in order, files as rows by names, their bytes. No program in sight: what a commit, and opening, make of a disk that is alive. No program in sight: sets of files: laid in a map, sorted by the document, made of raw ones.
-/
import Derived.Test.YtcgnkloljfgiaaaGreatDoorSm
import Derived.Test.YtcgnkloljfgiaaaGreatDoorWbb
import Derived.Test.YtcgnkloljfgiaaaGreatDoorWs
import Derived.Test.YtcgnkloljfgiaaaGreatDoorWm
namespace Go.Proofs.YtcgnkloljfgiaaaGreatDoor
open Go.RowKit Go.Maps Go.MapKept

abbrev keysOf {β : Type} (kvs : List (Str × β)) : List Str := kvs.map (·.1)
def Inc (l : List Str) : Prop := l.Pairwise (fun x y => Op.bytesLess x y = true)
theorem bytesLess_irrefl : ∀ x : Str, Op.bytesLess x x = false
  | [] => rfl
  | a :: x => by simp [Op.bytesLess, bytesLess_irrefl x]
theorem bytesLess_iff : ∀ x y : Str, Op.bytesLess x y = true ↔ x < y
  | x, [] => by cases x <;> simp [Op.bytesLess]
  | [], _ :: _ => by simp [Op.bytesLess]
  | a :: x, b :: y => by
    have := bytesLess_iff x y
    simp only [Op.bytesLess, Bool.or_eq_true, Bool.and_eq_true, decide_eq_true_eq, beq_iff_eq, List.cons_lt_cons_iff, this]
theorem inc_iff {l : List Str} : Inc l ↔ l.Pairwise (· < ·) := by
  unfold Inc
  constructor <;> intro h <;> exact h.imp (fun {a b} hab => by first | exact (bytesLess_iff a b).1 hab | exact (bytesLess_iff a b).2 hab)
theorem str_irrefl (x : Str) : ¬ x < x := fun h => by have := (bytesLess_iff x x).2 h; rw [bytesLess_irrefl] at this; cases this
theorem Inc.nodup {l : List Str} (h : Inc l) : l.Nodup := (inc_iff.1 h).imp (fun {a b} hab he => by subst he; exact str_irrefl a hab)
theorem Inc.filter {l : List Str} (h : Inc l) (p : Str → Bool) : Inc (l.filter p) := List.Pairwise.filter p h
theorem mem_sortS {l : List Str} {x : Str} : x ∈ sortS l ↔ x ∈ l := (List.mergeSort_perm l _).mem_iff
theorem str_le_of_lt {x y : Str} (h : x < y) : x ≤ y := List.le_of_lt h
theorem sortS_inc {l : List Str} (h : Inc l) : sortS l = l := by
  unfold sortS
  refine List.mergeSort_of_pairwise ((inc_iff.1 h).imp (fun {a b} hab => ?_))
  simpa using str_le_of_lt hab
theorem inc_sortS {l : List Str} (h : l.Nodup) : Inc (sortS l) := by
  have h1 : (sortS l).Pairwise (fun x y => decide (x ≤ y) = true) := by
    refine List.pairwise_mergeSort (fun a b c => ?_) (fun a b => ?_) l
    · simp only [decide_eq_true_eq]; exact fun x y => List.le_trans x y
    · simp only [Bool.or_eq_true, decide_eq_true_eq]; exact List.le_total a b
  have h2 : (sortS l).Nodup := (List.mergeSort_perm l _).nodup_iff.2 h
  refine inc_iff.2 ((h1.and h2).imp (fun {a b} hab => ?_))
  obtain ⟨p, q⟩ := hab
  simp only [decide_eq_true_eq] at p
  exact Decidable.byContradiction fun hn => q (List.le_antisymm p (List.not_lt.1 hn))
theorem Inc.ext : ∀ {l m : List Str}, Inc l → Inc m → (∀ x, x ∈ l ↔ x ∈ m) → l = m := by
  intro l m hl hm h
  have hp : l.Perm m := (List.perm_ext_iff_of_nodup hl.nodup hm.nodup).2 h
  exact List.Perm.eq_of_pairwise (fun a b _ _ h1 h2 => absurd (List.lt_trans h1 h2) (str_irrefl a)) (inc_iff.1 hl) (inc_iff.1 hm) hp

theorem keysOf_kput {β : Type} {kvs : List (Str × β)} {k x : Str} {v : β} : x ∈ keysOf (kput kvs k v) ↔ x ∈ keysOf kvs ∨ x = k := by
  induction kvs with
  | nil => simp [kput]
  | cons p r ih =>
    obtain ⟨j, u⟩ := p
    simp only [kput]
    split
    · rename_i h; subst h
      simp only [List.map_cons, List.mem_cons]
      constructor
      · rintro (h | h); exact Or.inl (Or.inl h); exact Or.inl (Or.inr h)
      · rintro ((h | h) | h); exact Or.inl h; exact Or.inr h; exact Or.inl h
    · simp only [List.map_cons, List.mem_cons, ih, or_assoc]
theorem nodup_kput {β : Type} {kvs : List (Str × β)} {k : Str} {v : β} (h : (keysOf kvs).Nodup) : (keysOf (kput kvs k v)).Nodup := by
  induction kvs with
  | nil => simp [kput]
  | cons p r ih =>
    obtain ⟨j, u⟩ := p
    simp only [List.map_cons, List.nodup_cons] at h
    simp only [kput]
    split
    · rename_i hj; subst hj; simp only [List.map_cons, List.nodup_cons]; exact h
    · rename_i hj
      simp only [List.map_cons, List.nodup_cons]
      refine ⟨fun hm => ?_, ih h.2⟩
      rcases keysOf_kput.1 hm with hm | hm
      · exact h.1 hm
      · exact hj hm
theorem kget_isSome {β : Type} {kvs : List (Str × β)} {x : Str} : (kget kvs x).isSome = true ↔ x ∈ keysOf kvs := by
  cases h : kget kvs x with
  | none => simpa using kget_none.1 h
  | some v =>
    have : ¬ x ∉ keysOf kvs := fun hn => by rw [kget_none.2 hn] at h; cases h
    simpa using Decidable.not_not.1 this
theorem kget_mem : ∀ {β : Type} {kvs : List (Str × β)} {x : Str} {v : β}, kget kvs x = some v → (x, v) ∈ kvs
  | _, [], _, _, h => by simp [kget] at h
  | _, (j, u) :: r, x, v, h => by
    simp only [kget] at h
    split at h
    · rename_i hj; cases h; cases hj; exact List.mem_cons_self
    · exact List.mem_cons_of_mem _ (kget_mem h)

/-- A map's entries by names. -/
def canon (kvs : List (Str × Str)) : List (Str × Str) := (sortS (keysOf kvs)).map fun s => (s, (kget kvs s).getD [])
theorem keysOf_canon (kvs : List (Str × Str)) : keysOf (canon kvs) = sortS (keysOf kvs) := by simp [canon, keysOf, Function.comp_def]
theorem kget_map (f : Str → Str) (s : Str) : ∀ l : List Str, kget (l.map fun s => (s, f s)) s = if s ∈ l then some (f s) else none
  | [] => by simp [kget]
  | x :: l => by
    simp only [List.map_cons, kget]
    by_cases h : x = s
    · subst h; simp
    · rw [if_neg h, kget_map f s l]
      simp [List.mem_cons, Ne.symm h]
theorem kget_canon (kvs : List (Str × Str)) (s : Str) : kget (canon kvs) s = kget kvs s := by
  unfold canon
  rw [kget_map (fun s => (kget kvs s).getD []) s]
  by_cases h : s ∈ keysOf kvs
  · rw [if_pos (mem_sortS.2 h)]
    have := kget_isSome.2 h
    cases hk : kget kvs s with
    | none => rw [hk] at this; cases this
    | some v => rfl
  · rw [if_neg (fun hh => h (mem_sortS.1 hh)), kget_none.2 h]
theorem eq_map_keys : ∀ {F : List (Str × Str)}, (keysOf F).Nodup → F = (keysOf F).map fun s => (s, (kget F s).getD [])
  | [], _ => rfl
  | (k, v) :: r, h => by
    simp only [keysOf, List.map_cons, List.nodup_cons] at h
    simp only [keysOf, List.map_cons, kget, if_true, Option.getD_some]
    congr 1
    conv => lhs; rw [eq_map_keys h.2]
    refine List.map_congr_left fun s hs => ?_
    rw [if_neg (fun e : k = s => h.1 (by rw [e]; exact hs))]
theorem mem_keys_ext {F G : List (Str × Str)} (h : ∀ s, kget F s = kget G s) (s : Str) : s ∈ keysOf F ↔ s ∈ keysOf G := by
  rw [← kget_isSome, ← kget_isSome, h]
theorem canon_ext {F kvs : List (Str × Str)} (hF : Inc (keysOf F)) (hk : (keysOf kvs).Nodup) (h : ∀ s, kget kvs s = kget F s) : canon kvs = F := by
  have e : sortS (keysOf kvs) = keysOf F := Inc.ext (inc_sortS hk) hF fun s => by rw [mem_sortS]; exact mem_keys_ext h s
  rw [eq_map_keys hF.nodup]
  unfold canon
  rw [e]
  exact List.map_congr_left fun s _ => by rw [h]
theorem canon_self {F : List (Str × Str)} (hF : Inc (keysOf F)) : canon F = F := canon_ext hF hF.nodup fun _ => rfl
theorem inc_canon {kvs : List (Str × Str)} (h : (keysOf kvs).Nodup) : Inc (keysOf (canon kvs)) := by rw [keysOf_canon]; exact inc_sortS h
theorem files_ext {F G : List (Str × Str)} (hF : Inc (keysOf F)) (hG : Inc (keysOf G)) (h : ∀ s, kget F s = kget G s) : F = G := by
  rw [← canon_self hF, canon_ext hG hF.nodup h]

/-- A name of one small letter. -/
def Nm (s : Str) : Prop := ∃ c : UInt8, s = [c] ∧ 97 ≤ c.toNat ∧ c.toNat ≤ 122
structure OkF (F : List (Str × Str)) : Prop where
  inc : Inc (keysOf F)
  nm : ∀ p ∈ F, Nm p.1
  tx : ∀ p ∈ F, p.2.length ≤ 2000
  len : F.length ≤ 8
def nmB (s : Str) : Byt := UInt8.ofNat s.length :: s
def txB (s : Str) : Byt := UInt8.ofNat s.length :: UInt8.ofNat (s.length / 256) :: s
def fileB (p : Str × Str) : Byt := nmB p.1 ++ txB p.2
def setB (F : List (Str × Str)) : Byt := UInt8.ofNat F.length :: F.flatMap fileB
def unionK (F G : List (Str × Str)) : List Str := sortS (keysOf F ++ (keysOf G).filter (fun s => decide (s ∉ keysOf F)))
def chN (F G : List (Str × Str)) : List (Str × Option Str) := (unionK F G).filterMap fun s => if kget F s = kget G s then none else some (s, kget G s)
def chB (c : Str × Option Str) : Byt := match c.2 with
  | some t => 1 :: (nmB c.1 ++ txB t)
  | none => 0 :: nmB c.1
def changesB (F G : List (Str × Str)) : Byt := UInt8.ofNat (chN F G).length :: (chN F G).flatMap chB
def applyC (m : List (Str × Str)) (c : Str × Option Str) : List (Str × Str) := match c.2 with
  | none => kdel m c.1
  | some t => kput (kdel m c.1) c.1 t
theorem nodup_applyC {m : List (Str × Str)} (h : (keysOf m).Nodup) (c : Str × Option Str) : (keysOf (applyC m c)).Nodup := by
  unfold applyC
  split
  · exact kdel_nodup h _
  · exact nodup_kput (kdel_nodup h _)
theorem kget_applyC {m : List (Str × Str)} (h : (keysOf m).Nodup) (c : Str × Option Str) (s : Str) : kget (applyC m c) s = if c.1 = s then c.2 else kget m s := by
  unfold applyC
  split
  · rename_i e; rw [kget_kdel h, e]
  · rename_i t e
    rw [kget_kput, kget_kdel h, e]
    split <;> simp
theorem nodup_apply : ∀ (C : List (Str × Option Str)) {m : List (Str × Str)}, (keysOf m).Nodup → (keysOf (C.foldl applyC m)).Nodup
  | [], _, h => h
  | c :: C, _, h => nodup_apply C (nodup_applyC h c)
theorem apply_out : ∀ (C : List (Str × Option Str)) {m : List (Str × Str)} {s : Str}, (keysOf m).Nodup → s ∉ keysOf C → kget (C.foldl applyC m) s = kget m s
  | [], _, _, _, _ => rfl
  | c :: C, m, s, h, hs => by
    simp only [keysOf, List.map_cons, List.mem_cons, not_or] at hs
    rw [List.foldl_cons, apply_out C (nodup_applyC h c) hs.2, kget_applyC h, if_neg (fun e => hs.1 e.symm)]
theorem apply_in : ∀ (C : List (Str × Option Str)) {m : List (Str × Str)} {s : Str} {o : Option Str}, (keysOf m).Nodup → (keysOf C).Nodup → (s, o) ∈ C → kget (C.foldl applyC m) s = o
  | c :: C, m, s, o, h, hC, hm => by
    simp only [keysOf, List.map_cons, List.nodup_cons] at hC
    rw [List.foldl_cons]
    rcases List.mem_cons.1 hm with rfl | hm
    · rw [apply_out C (nodup_applyC h _) hC.1, kget_applyC h, if_pos rfl]
    · exact apply_in C (nodup_applyC h c) hC.2 hm
theorem mem_unionK {F G : List (Str × Str)} {s : Str} : s ∈ unionK F G ↔ s ∈ keysOf F ∨ s ∈ keysOf G := by
  unfold unionK
  rw [mem_sortS, List.mem_append, List.mem_filter]
  by_cases h : s ∈ keysOf F <;> simp [h]
theorem inc_unionK {F G : List (Str × Str)} (hF : (keysOf F).Nodup) (hG : (keysOf G).Nodup) : Inc (unionK F G) := by
  refine inc_sortS (List.nodup_append.2 ⟨hF, hG.filter _, fun a ha b hb e => ?_⟩)
  subst e
  exact (of_decide_eq_true (List.mem_filter.1 hb).2) ha
theorem mem_chN {F G : List (Str × Str)} {s : Str} {o : Option Str} : (s, o) ∈ chN F G ↔ s ∈ unionK F G ∧ kget F s ≠ kget G s ∧ o = kget G s := by
  unfold chN
  rw [List.mem_filterMap]
  constructor
  · rintro ⟨x, hx, he⟩
    split at he
    · cases he
    · rename_i hne; cases he; exact ⟨hx, hne, rfl⟩
  · rintro ⟨h1, h2, rfl⟩
    exact ⟨s, h1, by rw [if_neg h2]⟩
theorem keys_chN (F G : List (Str × Str)) : keysOf (chN F G) = (unionK F G).filter (fun s => decide (kget F s ≠ kget G s)) := by
  unfold chN
  induction unionK F G with
  | nil => rfl
  | cons x l ih =>
    by_cases h : kget F x = kget G x
    · rw [List.filterMap_cons_none (by rw [if_pos h]), List.filter_cons_of_neg (by simpa using h)]; exact ih
    · rw [List.filterMap_cons_some (b := (x, kget G x)) (by rw [if_neg h]), List.filter_cons_of_pos (by simpa using h)]
      simp only [keysOf, List.map_cons]
      rw [← ih]
theorem nodup_chN {F G : List (Str × Str)} (hF : (keysOf F).Nodup) (hG : (keysOf G).Nodup) : (keysOf (chN F G)).Nodup := by
  rw [keys_chN]; exact (inc_unionK hF hG).nodup.filter _
theorem apply_all {F G kvs : List (Str × Str)} (hF : (keysOf F).Nodup) (hG : (keysOf G).Nodup) (hk : (keysOf kvs).Nodup) (h : ∀ s, kget kvs s = kget F s) (s : Str) : kget ((chN F G).foldl applyC kvs) s = kget G s := by
  by_cases hs : s ∈ unionK F G ∧ kget F s ≠ kget G s
  · exact apply_in _ hk (nodup_chN hF hG) (mem_chN.2 ⟨hs.1, hs.2, rfl⟩)
  · rw [apply_out _ hk (by rw [keys_chN, List.mem_filter]; simpa using hs), h]
    by_cases hu : s ∈ unionK F G
    · exact Decidable.not_not.1 fun hn => hs ⟨hu, hn⟩
    · rw [mem_unionK, not_or] at hu
      rw [kget_none.2 hu.1, kget_none.2 hu.2]
/-- What rows tell. -/
inductive TellsF : List Byt → List (Str × Str) → Prop
  | whole {F : List (Str × Str)} : OkF F → TellsF [setB F] F
  | change {rows : List Byt} {F G : List (Str × Str)} : TellsF rows F → OkF G → TellsF (rows ++ [changesB F G]) G
theorem TellsF.ok {rows : List Byt} {F : List (Str × Str)} (h : TellsF rows F) : OkF F := by cases h <;> assumption
theorem nmB_len {s : Str} (h : Nm s) : (nmB s).length = 2 := by obtain ⟨c, rfl, _⟩ := h; rfl
theorem txB_len (s : Str) : (txB s).length = s.length + 2 := by simp [txB]
theorem fileB_len {p : Str × Str} (h : Nm p.1) : (fileB p).length = p.2.length + 4 := by unfold fileB; rw [List.length_append, nmB_len h, txB_len]; omega
theorem nm_ok {s : Str} (h : Nm s) : okStr s := by obtain ⟨c, rfl, _⟩ := h; simp [okStr, maxLen]
theorem OkF.kget_nm {F : List (Str × Str)} (h : OkF F) {s t : Str} (hs : kget F s = some t) : Nm s ∧ t.length ≤ 2000 := by
  have := kget_mem hs
  exact ⟨h.nm _ this, h.tx _ this⟩
end Go.Proofs.YtcgnkloljfgiaaaGreatDoor

namespace Go.Proofs.YtcgnkloljfgiaaaGreatDoor
open Go.RowKit Go.Maps Go.MapKept

def tot (F : List (Str × Str)) : Nat := (F.map (fun p => p.2.length)).sum
def lenAt (F : List (Str × Str)) (s : Str) : Nat := ((kget F s).getD []).length
theorem sum_if {k : Str} {n : Nat} {x : Str → Nat} : ∀ {S : List Str}, S.Nodup → (S.map (fun s => if k = s then n else x s)).sum ≤ n + (S.map x).sum
  | [], _ => by simp
  | s :: S, h => by
    rw [List.nodup_cons] at h
    simp only [List.map_cons, List.sum_cons]
    by_cases hk : k = s
    · subst hk
      rw [if_pos rfl]
      have e : S.map (fun s => if k = s then n else x s) = S.map x := List.map_congr_left fun s hs => by rw [if_neg (fun e => h.1 (by rw [e]; exact hs))]
      rw [e]; omega
    · rw [if_neg hk]
      have := sum_if (k := k) (n := n) (x := x) h.2
      omega
theorem sum_lenAt : ∀ (G : List (Str × Str)) {S : List Str}, S.Nodup → (S.map (lenAt G)).sum ≤ tot G
  | [], S, _ => by
    have : S.map (lenAt []) = S.map (fun _ => 0) := List.map_congr_left fun s _ => by simp [lenAt, kget]
    rw [this]
    have h0 : ∀ l : List Str, (l.map (fun _ => 0)).sum = 0 := fun l => by induction l with
      | nil => rfl
      | cons a l ih => simp only [List.map_cons, List.sum_cons, ih]
    rw [h0]; exact Nat.zero_le _
  | (k, v) :: r, S, h => by
    have e : S.map (lenAt ((k, v) :: r)) = S.map (fun s => if k = s then v.length else lenAt r s) := List.map_congr_left fun s _ => by
      simp only [lenAt, kget]
      by_cases hk : k = s
      · simp [hk]
      · simp [hk]
    rw [e]
    have h1 := sum_if (k := k) (n := v.length) (x := lenAt r) h
    have h2 := sum_lenAt r h
    simp only [tot, List.map_cons, List.sum_cons] at h2 ⊢
    omega
theorem flat_files : ∀ {F : List (Str × Str)}, (∀ p ∈ F, Nm p.1) → (F.flatMap fileB).length = 4 * F.length + tot F
  | [], _ => rfl
  | p :: r, h => by
    rw [List.flatMap_cons, List.length_append, fileB_len (h p List.mem_cons_self), flat_files fun q hq => h q (List.mem_cons_of_mem _ hq)]
    simp only [tot, List.map_cons, List.sum_cons, List.length_cons]
    omega
theorem setB_len {F : List (Str × Str)} (h : OkF F) : (setB F).length = 1 + 4 * F.length + tot F := by
  unfold setB
  rw [List.length_cons, flat_files h.nm]; omega
theorem chB_len {c : Str × Option Str} (h : Nm c.1) : (chB c).length ≤ 5 + (c.2.getD []).length := by
  obtain ⟨s, o⟩ := c
  cases o with
  | none => have := nmB_len (s := s) h; simp only [chB, List.length_cons]; omega
  | some t =>
    have h1 := nmB_len (s := s) h
    have h2 := txB_len t
    simp only [chB, List.length_cons, List.length_append, Option.getD_some]
    omega
theorem flat_ch : ∀ {C : List (Str × Option Str)}, (∀ c ∈ C, Nm c.1) → (C.flatMap chB).length ≤ 5 * C.length + (C.map (fun c => (c.2.getD []).length)).sum
  | [], _ => by simp
  | c :: C, h => by
    have h1 := chB_len (h c List.mem_cons_self)
    have h2 := flat_ch fun q hq => h q (List.mem_cons_of_mem c hq)
    rw [List.flatMap_cons, List.length_append]
    simp only [List.map_cons, List.sum_cons, List.length_cons]
    omega
theorem chN_nm {F G : List (Str × Str)} (hF : OkF F) (hG : OkF G) : ∀ c ∈ chN F G, Nm c.1 := by
  rintro ⟨s, o⟩ hc
  rcases mem_unionK.1 (mem_chN.1 hc).1 with h | h
  · obtain ⟨p, hp, rfl⟩ := List.mem_map.1 h; exact hF.nm p hp
  · obtain ⟨p, hp, rfl⟩ := List.mem_map.1 h; exact hG.nm p hp
theorem unionK_len (F G : List (Str × Str)) : (unionK F G).length ≤ F.length + G.length := by
  unfold unionK sortS
  rw [List.length_mergeSort, List.length_append]
  have := List.length_filter_le (fun s => decide (s ∉ keysOf F)) (keysOf G)
  simp only [List.length_map] at this ⊢
  omega
theorem chN_len (F G : List (Str × Str)) : (chN F G).length ≤ F.length + G.length := by
  have h : (keysOf (chN F G)).length ≤ (unionK F G).length := by rw [keys_chN]; exact List.length_filter_le _ _
  have := unionK_len F G
  simp only [List.length_map] at h
  omega
theorem changesB_len {F G : List (Str × Str)} (hF : OkF F) (hG : OkF G) : (changesB F G).length ≤ 81 + tot G := by
  have h1 := flat_ch (chN_nm hF hG)
  have h2 := chN_len F G
  have h3 : ((chN F G).map (fun c => (c.2.getD []).length)).sum ≤ tot G := by
    have e : (chN F G).map (fun c => (c.2.getD []).length) = (keysOf (chN F G)).map (lenAt G) := by
      rw [List.map_map]
      refine List.map_congr_left fun c hc => ?_
      obtain ⟨s, o⟩ := c
      rw [(mem_chN.1 hc).2.2]; rfl
    rw [e]
    exact sum_lenAt G (nodup_chN hF.inc.nodup hG.inc.nodup)
  have := hF.len
  have := hG.len
  unfold changesB
  rw [List.length_cons]
  omega
theorem changes_parts {F G : List (Str × Str)} (hF : OkF F) (hG : OkF G) (h : partsOf (setB G).length ≤ 128) : partsOf (changesB F G).length ≤ 255 := by
  have h1 := setB_len hG
  have h2 := changesB_len hF hG
  unfold partsOf at h ⊢
  omega
theorem parts_pos (t : Byt) : 1 ≤ partsOf t.length := by unfold partsOf; omega
theorem LogI.rc_le {T : Int → Option PartR} {z : Nat} {l : LogR} {rows : List Byt} (h : LogI T z l rows) : l.rc ≤ z := by
  have h1 := recsP_len l.gen rows 0
  have h2 := h.rc
  have h3 := h.nx
  have h4 := h.fit
  omega

/-- A commit: what it answers, the disk, the log, the files behind it. -/
def commitD (d : Dk) (l : LogR) (F G : List (Str × Str)) : Int × Dk × LogR × List (Str × Str) :=
  if d.last.length / 2 < partsOf (setB G).length then (4, d, l, F)
  else if F = G then (0, d, l, F)
  else
    let a := appendD d l (changesB F G)
    if a.2.1 = 0 then
      if a.1 = true then (0, a.2.2.1, a.2.2.2, G)
      else
        let f := freshD a.2.2.1 a.2.2.2 (setB G)
        (f.1, f.2.1, f.2.2, if f.1 = 0 then G else F)
    else (a.2.1, a.2.2.1, a.2.2.2, F)
/-- A store's disk that is sound: its log, and what that tells. -/
structure StoreI (d : Dk) (N : Nat) (k : Int) (l : LogR) (F : List (Str × Str)) : Prop where
  al : Alive d N k
  rows : ∃ rows, LogI (tabR d N) (N / 2) l rows ∧ TellsF rows F
theorem StoreI.ok {d : Dk} {N : Nat} {k : Int} {l : LogR} {F : List (Str × Str)} (h : StoreI d N k l F) : OkF F := by obtain ⟨_, _, h⟩ := h.rows; exact h.ok
theorem commit_alive {d : Dk} {N : Nat} {k : Int} {l : LogR} {F G : List (Str × Str)} (h : StoreI d N k l F) (hk : 0 ≤ k ∧ k < 100000000) (hN : N ≤ 256) (hG : OkF G) (hg : l.gen < 4294967295) :
    (N / 2 < partsOf (setB G).length → commitD d l F G = (4, d, l, F)) ∧
    (partsOf (setB G).length ≤ N / 2 → F = G → commitD d l F G = (0, d, l, F)) ∧
    (partsOf (setB G).length ≤ N / 2 → F ≠ G → ∃ d' l' k', commitD d l F G = (0, d', l', G) ∧ StoreI d' N k' l' G ∧ k < k' ∧ k' ≤ k + 300 ∧ l'.gen ≤ l.gen + 1) := by
  obtain ⟨rows, hI, hT⟩ := h.rows
  have hlen : d.last.length = N := h.al.len
  refine ⟨fun hf => ?_, fun hf he => ?_, fun hf he => ?_⟩
  · unfold commitD; rw [hlen, if_pos hf]
  · unfold commitD; rw [hlen, if_neg (by omega), if_pos he]
  · have hp : partsOf (setB G).length ≤ 128 := by omega
    have hc5 := changes_parts hT.ok hG hp
    have hrc := hI.rc_le
    obtain ⟨c1, c2⟩ := append_alive (t := changesB F G) h.al hk hN hI (by omega) (by omega) hc5
    by_cases hfit : l.next + partsOf (changesB F G).length ≤ N / 2
    · obtain ⟨d', e1, e2, e3⟩ := c1 hfit
      refine ⟨d', _, _, ?_, ⟨e2, _, e3, hT.change hG⟩, by omega, by omega, by simp⟩
      unfold commitD
      rw [hlen, if_neg (by omega), if_neg he, e1]
      rfl
    · have e1 := c2 (by omega)
      obtain ⟨d', f1, f2, f3⟩ := fresh_alive (l := l) (t := setB G) h.al hk hN (fun i p hp => by rw [hI.mo]; exact (hI.all i p hp).1) hI.hf (by rw [hI.mo]; omega) hf
      refine ⟨d', _, _, ?_, ⟨f2, _, f3, TellsF.whole hG⟩, by omega, by omega, by show l.most + 1 ≤ _; rw [hI.mo]; omega⟩
      unfold commitD
      rw [hlen, if_neg (by omega), if_neg he, e1]
      simp only [if_true, Bool.false_eq_true, if_false, f1]
/-- Opening a sound store's disk: the log anew, the same files. -/
theorem reopen_alive {d : Dk} {N : Nat} {k : Int} {l : LogR} {F : List (Str × Str)} (h : StoreI d N k l F) (hk : 0 ≤ k ∧ k < 100000000) (hN : N ≤ 256) (hg : l.gen < 4294967295) (hp : partsOf (setB F).length ≤ N / 2) :
    ∃ rows d' l' k', openR d = (l, rows) ∧ TellsF rows F ∧ freshD d l (setB F) = (0, d', l') ∧ StoreI d' N k' l' F ∧ k < k' ∧ k' ≤ k + 300 ∧ l'.gen ≤ l.gen + 1 := by
  obtain ⟨rows, hI, hT⟩ := h.rows
  obtain ⟨d', f1, f2, f3⟩ := fresh_alive (l := l) (t := setB F) h.al hk hN (fun i p hp => by rw [hI.mo]; exact (hI.all i p hp).1) hI.hf (by rw [hI.mo]; omega) hp
  exact ⟨rows, d', _, _, open_log h.al.len rfl (by omega) hI, hT, f1, ⟨f2, _, f3, TellsF.whole hT.ok⟩, by omega, by omega, by show l.most + 1 ≤ _; rw [hI.mo]; omega⟩
theorem okF_nil : OkF [] := ⟨List.Pairwise.nil, (by intro p hp; cases hp), (by intro p hp; cases hp), by decide⟩
/-- Opening an empty disk. -/
theorem open_new (N : Nat) (h8 : 8 ≤ N) (hN : N ≤ 256) : ∃ d' l' k', openR (Dk.fresh0 N) = (⟨0, 0, 0, 0, 0⟩, []) ∧ freshD (Dk.fresh0 N) ⟨0, 0, 0, 0, 0⟩ (setB []) = (0, d', l') ∧ StoreI d' N k' l' [] ∧ 0 ≤ k' ∧ k' ≤ 300 ∧ l'.gen = 1 := by
  have hA := alive_fresh N (by omega)
  have hp : partsOf (setB []).length ≤ N / 2 := by rw [show partsOf (setB []).length = 1 from by decide]; omega
  obtain ⟨d', f1, f2, f3⟩ := fresh_alive (l := ⟨0, 0, 0, 0, 0⟩) (t := setB []) hA (by omega) hN (by rw [tab_fresh0]; intro i p hp; cases hp) (by decide) (by decide) hp
  exact ⟨d', _, _, open_fresh0 N, f1, ⟨f2, _, f3, TellsF.whole okF_nil⟩, by omega, by omega, rfl⟩
end Go.Proofs.YtcgnkloljfgiaaaGreatDoor

namespace Go.Proofs.YtcgnkloljfgiaaaGreatDoor
open Go.RowKit Go.Maps Go.MapKept

def layF (l : List (Str × Str)) : List (Str × Str) := l.foldl (fun m p => kput m p.1 p.2) []
theorem layF_snoc (l : List (Str × Str)) (p : Str × Str) : layF (l ++ [p]) = kput (layF l) p.1 p.2 := by simp [layF]
theorem lay_nodup : ∀ (l : List (Str × Str)) {m : List (Str × Str)}, (keysOf (m ++ l)).Nodup → l.foldl (fun m p => kput m p.1 p.2) m = m ++ l
  | [], m, _ => by simp
  | p :: l, m, h => by
    rw [List.foldl_cons]
    have hn : kget m p.1 = none := kget_none.2 fun hm => by
      rw [keysOf, List.map_append, List.nodup_append] at h
      exact h.2.2 _ hm _ (List.mem_map_of_mem List.mem_cons_self) rfl
    rw [kput_none hn, show (p.1, p.2) = p from rfl, lay_nodup l (by simpa using h)]
    simp
theorem layF_nodup {l : List (Str × Str)} (h : (keysOf l).Nodup) : layF l = l := by
  unfold layF
  rw [lay_nodup l (by simpa using h)]; rfl
/-- A file laid into files by names. -/
def insF (l : List (Str × Str)) (p : Str × Str) : List (Str × Str) := l.takeWhile (fun q => Op.bytesLess q.1 p.1) ++ p :: l.dropWhile (fun q => Op.bytesLess q.1 p.1)
def sortF (l : List (Str × Str)) : List (Str × Str) := l.foldl insF []
theorem sortF_snoc (l : List (Str × Str)) (p : Str × Str) : sortF (l ++ [p]) = insF (sortF l) p := by simp [sortF]
theorem insF_perm (l : List (Str × Str)) (p : Str × Str) : (insF l p).Perm (p :: l) := by
  unfold insF
  refine List.perm_middle.trans (List.Perm.cons _ ?_)
  rw [List.takeWhile_append_dropWhile]
theorem insF_len (l : List (Str × Str)) (p : Str × Str) : (insF l p).length = l.length + 1 := by rw [(insF_perm l p).length_eq]; rfl
theorem sortF_perm : ∀ (l : List (Str × Str)) {m : List (Str × Str)}, (l.foldl insF m).Perm (m ++ l)
  | [], m => by simp
  | p :: l, m => by
    rw [List.foldl_cons]
    refine (sortF_perm l).trans ?_
    refine ((insF_perm m p).append_right l).trans ?_
    rw [List.cons_append]
    exact List.perm_middle.symm
theorem insF_inc {l : List (Str × Str)} {p : Str × Str} (h : Inc (keysOf l)) (hp : p.1 ∉ keysOf l) : Inc (keysOf (insF l p)) := by
  rw [inc_iff] at h ⊢
  unfold insF
  have hw : ∀ q ∈ l.takeWhile (fun q => Op.bytesLess q.1 p.1), q.1 < p.1 := fun q hq => (bytesLess_iff _ _).1 (by
    have := List.all_takeWhile (p := fun q : Str × Str => Op.bytesLess q.1 p.1) (l := l)
    exact List.all_eq_true.1 this q hq)
  have hs := List.takeWhile_append_dropWhile (p := fun q : Str × Str => Op.bytesLess q.1 p.1) (l := l)
  have hmt : ∀ q ∈ l.takeWhile (fun q => Op.bytesLess q.1 p.1), q ∈ l := fun q hq => by rw [← hs]; exact List.mem_append_left _ hq
  have hmd : ∀ q ∈ l.dropWhile (fun q => Op.bytesLess q.1 p.1), q ∈ l := fun q hq => by rw [← hs]; exact List.mem_append_right _ hq
  have hpw := h
  rw [← hs] at hpw
  simp only [keysOf, List.map_append, List.map_cons] at hpw ⊢
  rw [List.pairwise_append] at hpw ⊢
  have hd : ∀ x ∈ (l.dropWhile (fun q => Op.bytesLess q.1 p.1)).map (·.1), p.1 < x := by
    intro x hx
    cases hdw : l.dropWhile (fun q => Op.bytesLess q.1 p.1) with
    | nil => rw [hdw] at hx; cases hx
    | cons q r =>
      have hq : ¬ Op.bytesLess q.1 p.1 = true := by
        have h0 := List.head_dropWhile_not (p := fun q : Str × Str => Op.bytesLess q.1 p.1) (l := l) (by rw [hdw]; simp)
        simp only [hdw, List.head_cons] at h0
        simp [h0]
      have hqn : p.1 < q.1 := by
        rw [bytesLess_iff] at hq
        rcases Decidable.em (p.1 < q.1) with h1 | h1
        · exact h1
        · exact absurd (List.le_antisymm (List.not_lt.1 hq) (List.not_lt.1 h1)) (fun e => hp (by rw [e]; exact List.mem_map_of_mem (hmd q (by rw [hdw]; exact List.mem_cons_self))))
      rw [hdw] at hx hpw
      simp only [List.map_cons, List.mem_cons] at hx hpw
      rcases hx with rfl | hx
      · exact hqn
      · exact List.lt_trans hqn ((List.pairwise_cons.1 hpw.2.1).1 x hx)
  refine ⟨hpw.1, List.pairwise_cons.2 ⟨hd, hpw.2.1⟩, fun a ha c hc => ?_⟩
  obtain ⟨q, hq, rfl⟩ := List.mem_map.1 ha
  rcases List.mem_cons.1 hc with rfl | hc
  · exact hw q hq
  · exact List.lt_trans (hw q hq) (hd c hc)
theorem sortF_inc : ∀ (l : List (Str × Str)) {m : List (Str × Str)}, Inc (keysOf m) → (keysOf (m ++ l)).Nodup → Inc (keysOf (l.foldl insF m))
  | [], _, h, _ => h
  | p :: l, m, h, hn => by
    rw [List.foldl_cons]
    have hp : p.1 ∉ keysOf m := fun hm => by
      rw [keysOf, List.map_append, List.nodup_append] at hn
      exact hn.2.2 _ hm _ (List.mem_map_of_mem List.mem_cons_self) rfl
    refine sortF_inc l (insF_inc h hp) ?_
    refine (List.Perm.nodup_iff (List.Perm.map _ ?_)).1 hn
    refine List.Perm.trans ?_ ((insF_perm m p).append_right l).symm
    rw [List.cons_append]
    exact List.perm_middle
theorem kget_perm {F G : List (Str × Str)} (hF : (keysOf F).Nodup) (h : F.Perm G) (s : Str) : kget F s = kget G s := by
  have hG : (keysOf G).Nodup := (List.Perm.nodup_iff (h.map _)).1 hF
  have one : ∀ {A B : List (Str × Str)}, (keysOf B).Nodup → A.Perm B → ∀ {t}, kget A s = some t → kget B s = some t := fun {A B} hB hp {t} ht => by
    obtain ⟨j, hj⟩ := List.mem_iff_getElem?.1 (hp.mem_iff.1 (kget_mem ht))
    exact kget_at B j (s, t) hB hj
  cases e : kget F s with
  | some t => rw [one hG h e]
  | none =>
    cases e2 : kget G s with
    | none => rfl
    | some t => rw [one hF h.symm e2] at e; cases e
theorem sortF_perm0 (l : List (Str × Str)) : (sortF l).Perm l := by have := sortF_perm l (m := []); rw [List.nil_append] at this; exact this
theorem sortF_canon {l : List (Str × Str)} (h : (keysOf l).Nodup) : sortF l = canon l := by
  have hp := sortF_perm0 l
  refine (canon_ext (sortF_inc l (m := []) List.Pairwise.nil (by simpa using h)) h fun s => ?_).symm
  exact kget_perm h hp.symm s
theorem canon_perm {F G : List (Str × Str)} (hF : (keysOf F).Nodup) (h : F.Perm G) : canon F = canon G := by
  have hG : (keysOf G).Nodup := (List.Perm.nodup_iff (h.map _)).1 hF
  exact canon_ext (inc_canon hG) hF fun s => by rw [kget_canon]; exact kget_perm hF h s
theorem canon_mem {l : List (Str × Str)} (h : (keysOf l).Nodup) : (canon l).Perm l := by
  rw [← sortF_canon h]; exact sortF_perm0 l
/-- A set of names that differ, each of one small letter, with texts that are not too long. -/
structure OkL (l : List (Str × Str)) : Prop where
  nd : (keysOf l).Nodup
  nm : ∀ p ∈ l, Nm p.1
  tx : ∀ p ∈ l, p.2.length ≤ 2000
  len : l.length ≤ 8
theorem OkL.okF {l : List (Str × Str)} (h : OkL l) : OkF (canon l) where
  inc := inc_canon h.nd
  nm := fun p hp => h.nm p ((canon_mem h.nd).mem_iff.1 hp)
  tx := fun p hp => h.tx p ((canon_mem h.nd).mem_iff.1 hp)
  len := by rw [(canon_mem h.nd).length_eq]; exact h.len
theorem tot_perm {F G : List (Str × Str)} (h : F.Perm G) : tot F = tot G := (h.map _).sum_nat
/-- A set made of raw files and numbers. -/
def mkN (ns : List Int) (i : Nat) : Str := [UInt8.ofNat (97 + ((ns.getD i (i : Int)) % 5)).toNat]
def mkP (l : List (Str × Str)) (ns : List Int) (i : Nat) : Str × Str := (mkN ns i, ((l.getD i ([], [])).2).take 400)
def makeN (l : List (Str × Str)) (ns : List Int) : Nat → List (Str × Str)
  | 0 => []
  | i + 1 => if (mkP l ns i).1 ∈ keysOf (makeN l ns i) then makeN l ns i else makeN l ns i ++ [mkP l ns i]
def makeL (l : List (Str × Str)) (ns : List Int) : List (Str × Str) := makeN l ns (min l.length 8)
theorem mkN_nm (ns : List Int) (i : Nat) : Nm (mkN ns i) := by
  refine ⟨_, rfl, ?_, ?_⟩
  all_goals rw [UInt8.toNat_ofNat']; omega
theorem makeN_ok (l : List (Str × Str)) (ns : List Int) : ∀ i, (keysOf (makeN l ns i)).Nodup ∧ (∀ p ∈ makeN l ns i, Nm p.1 ∧ p.2.length ≤ 400) ∧ (makeN l ns i).length ≤ i
  | 0 => ⟨List.Pairwise.nil, (by intro p hp; cases hp), Nat.le_refl 0⟩
  | i + 1 => by
    obtain ⟨h1, h2, h3⟩ := makeN_ok l ns i
    simp only [makeN]
    split
    · exact ⟨h1, h2, by omega⟩
    · rename_i hn
      refine ⟨?_, fun p hp => ?_, by rw [List.length_append]; simp only [List.length_cons, List.length_nil]; omega⟩
      · rw [keysOf, List.map_append, List.nodup_append]
        refine ⟨h1, by simp, fun a ha c hc e => ?_⟩
        simp only [List.map_cons, List.map_nil, List.mem_singleton] at hc
        exact hn (by rw [← hc, ← e]; exact ha)
      · rcases List.mem_append.1 hp with hp | hp
        · exact h2 p hp
        · rw [List.mem_singleton] at hp
          subst hp
          exact ⟨mkN_nm ns i, by simp only [mkP, List.length_take]; omega⟩
theorem makeL_ok (l : List (Str × Str)) (ns : List Int) : OkL (makeL l ns) ∧ (∀ p ∈ makeL l ns, p.2.length ≤ 400) := by
  obtain ⟨h1, h2, h3⟩ := makeN_ok l ns (min l.length 8)
  exact ⟨⟨h1, fun p hp => (h2 p hp).1, fun p hp => Nat.le_trans (h2 p hp).2 (by decide), by unfold makeL; omega⟩, fun p hp => (h2 p hp).2⟩
theorem tot_le {F : List (Str × Str)} {n : Nat} (h : ∀ p ∈ F, p.2.length ≤ n) : tot F ≤ n * F.length := by
  induction F with
  | nil => simp [tot]
  | cons p r ih =>
    have h1 := h p List.mem_cons_self
    have h2 := ih fun q hq => h q (List.mem_cons_of_mem _ hq)
    simp only [tot, List.map_cons, List.sum_cons, List.length_cons] at h2 ⊢
    rw [Nat.mul_succ]; omega
theorem make_parts (l : List (Str × Str)) (ns : List Int) : partsOf (setB (canon (makeL l ns))).length ≤ 63 := by
  obtain ⟨h1, h2⟩ := makeL_ok l ns
  have e := setB_len h1.okF
  have hp := canon_mem h1.nd
  rw [hp.length_eq, tot_perm hp] at e
  have := tot_le h2
  have := h1.len
  unfold partsOf
  omega
end Go.Proofs.YtcgnkloljfgiaaaGreatDoor
