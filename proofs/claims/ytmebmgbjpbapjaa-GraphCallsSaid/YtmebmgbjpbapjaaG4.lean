/-
  package graph: named.
-/
import Derived.Test.YtmebmgbjpbapjaaGt
import Derived.Maps.OwnOps
namespace Go.Proofs.Ytmebmgbjpbapjaa
open Go.RowKit Go.Maps Go.MapKept

def names (kind : Int) : Stms → List Str
  | .nil => []
  | .cons k _ n A B r => (if k = kind then [n] else []) ++ names kind A ++ names kind B ++ names kind r
def namesR (kind : Int) (xs : List SRec) : List Str := xs.flatMap (fun s => (if s.kind = kind then [s.name] else []) ++ names kind s.A ++ names kind s.B)
theorem names_toL (kind : Int) : ∀ l : Stms, names kind l = namesR kind l.toL
  | .nil => rfl
  | .cons k p n A B r => by simp [names, namesR, Stms.toL, names_toL kind r]
theorem namesR_succ {kind : Int} {xs : List SRec} {k : Nat} (h : k < xs.length) : namesR kind (xs.take (k + 1)) = namesR kind (xs.take k) ++ ((if xs[k].kind = kind then [xs[k].name] else []) ++ names kind xs[k].A ++ names kind xs[k].B) := by
  rw [List.take_succ_eq_append_getElem h]; simp only [namesR, List.flatMap_append, List.flatMap_cons, List.flatMap_nil, List.append_nil]

def putAll (kvs : List (Str × Bool)) (l : List Str) : List (Str × Bool) := l.foldl (fun m s => kput m s true) kvs
theorem putAll_append (kvs : List (Str × Bool)) (l m : List Str) : putAll kvs (l ++ m) = putAll (putAll kvs l) m := by simp [putAll]

abbrev HP.set (m : Nat) (kvs : List (Str × Bool)) : HP := HP.map sv okStr Value.bool m kvs

def NamedAt (b : Env) (L : List HP) (m : Nat) (kvs : List (Str × Bool)) (kind : Int) (xs : List SRec) (i : Value) (wr : World) : Prop := ∃ k : Nat, k ≤ xs.length ∧ i = .int .i64 k ∧ St b (HP.set m (putAll kvs (namesR kind (xs.take k))) :: L) wr

theorem putAll_succ (kvs : List (Str × Bool)) (kind : Int) {xs : List SRec} {k : Nat} (h : k < xs.length) {x : SRec} (hx : xs[k] = x) : putAll kvs (namesR kind (xs.take (k + 1))) = putAll (putAll (putAll (putAll kvs (namesR kind (xs.take k))) (if x.kind = kind then [x.name] else [])) (names kind x.A)) (names kind x.B) := by
  rw [namesR_succ h, hx, putAll_append, putAll_append, putAll_append]

def GNamed (l : Stms) : Prop := ∀ (b : Env) (L : List HP) (w : World) (v : Value) (mb : Nat) (kvs : List (Str × Bool)), St b (HP.set mb kvs :: L) w → HP.sl stmtE v l.toL ∈ L → ∀ kind : Int,
    Calls Try.prog 59 #[v, .int .i64 kind, .map (some mb)] w fun x w' => x = .returned (.tuple #[]) ∧ St b (HP.set mb (putAll kvs (names kind l)) :: L) w'

set_option maxRecDepth 100000 in
set_option maxHeartbeats 1000000 in
theorem gnamed_all : ∀ (n : Nat) (l : Stms), l.size = n → GNamed l := by
  intro n
  induction n using Nat.strongRecOn with
  | _ n ih =>
    intro l hl b L w v mb kvs h hm kind
    obtain ⟨base, cap, rfl, hc1, hc2⟩ := h.sl_form (List.mem_cons_of_mem _ hm)
    have hm2 : (l.toL.length : Int) ≤ 9223372036854775807 := by unfold maxLen at hc2; omega
    have H := hide h
    have HM := hide hm
    have IH := hide ih
    have HL := hide hl
    clear h hm hc2 ih hl
    go_enter Try.func59, Try.ntmps59
    go_wp2_with fail
    go_loopw [10] (fun i wr => NamedAt b L mb kvs kind l.toL i wr) (fun i _ => l.toL.length - (intOf i).toNat)
    case atStart => exact ⟨0, by omega, rfl, H.out⟩
    case round =>
      obtain ⟨k, hk, rfl, hs⟩ := hrel
      have H1 := hide hs
      clear hs H
      by_cases hlt : k < l.toL.length
      · obtain ⟨g, o, rfl⟩ := H1.out.sl_base (List.mem_cons_of_mem _ HM.out) (by omega) (by decide)
        obtain ⟨cs, h2⟩ := H1.out.elem (List.mem_cons_of_mem _ HM.out) (List.getElem?_eq_getElem hlt) (by decide)
        have hsz := Stms.size_mem (List.getElem_mem hlt)
        obtain ⟨x, hx⟩ : ∃ x, l.toL[k] = x := ⟨_, rfl⟩
        rw [hx] at h2 hsz
        obtain ⟨e1, _, _, hrd⟩ := h2.elem_rd List.mem_cons_self
        have hone := stmtE.one hrd
        obtain ⟨va, vb, hok, rfl, h3⟩ := h2.stmt
        have hcs : ∀ j u, [Value.int .i64 x.kind, .int .i64 x.pos, sv x.name, va, vb][j]? = some u → wr.cell? ⟨g, o + k * 5 + j, none⟩ = some u := fun j u hj => by have := h3.elem_cell (List.mem_cons_of_mem _ (List.mem_cons_of_mem _ List.mem_cons_self)) j hj; exact this
        have IHA : Hid (GNamed x.A) := hide (IH.out x.A.size (by rw [← HL.out]; exact hsz.1) x.A rfl)
        have IHB : Hid (GNamed x.B) := hide (IH.out x.B.size (by rw [← HL.out]; exact hsz.2) x.B rfl)
        have HX := hide hx
        have HOK := hide hok
        have HONE := hide hone
        have HCS := hide hcs
        have H3 := hide h3
        clear hx hok h3 h2 H1 hcs hone hrd hsz
        by_cases hk2 : x.kind = kind
        · have hkb : (x.kind == kind) = true := by simp [hk2]
          have HK2 := hide hk2
          clear hk2
          go_wp2_with (first
            | (with_reducible refine wpList_load_ag (cs := [.int .i64 x.kind, .int .i64 x.pos, sv x.name, va, vb]) rfl agStmt (.tmp 12) rfl rfl rfl HCS.out ?_)
            | ((with_reducible refine wpList_alloc_ag rfl agStmt rfl H3.out ?_); intro g9 w9 h9; have H9 := hide h9; clear h9 H3)
            | ((with_reducible refine wpList_store_ag (cs := [.int .i64 x.kind, .int .i64 x.pos, sv x.name, va, vb]) rfl agStmt (.tmp 7) (.tmp 13) rfl rfl rfl rfl rfl HONE.out H9.out ?_); intro w10 h10; have c0 : w10.cell? ⟨g9, 0, none⟩ = some (.int .i64 x.kind) := h10.blk_cell List.mem_cons_self 0; have c2 : w10.cell? ⟨g9, 2, none⟩ = some (.string ⟨x.name.toArray⟩) := h10.blk_cell List.mem_cons_self 2; have H10 := hide h10.f4; clear h10 H9)
            | (at_mapUpdate; refine wpList_mapUpdate_st rfl 66 (.tmp 18) (.tmp 20) (.const (.bool true)) rfl keyStr mapSet x.name true rfl rfl HOK.out rfl H10.out ?_; intro w11 h11; have c3 : w11.cell? ⟨g9, 3, none⟩ = some va := h11.blk_cell mem1 3; have H11 := hide h11; clear h11 H10)
            | (go_at_call 59; refine (IHA.out _ _ _ _ _ _ H11.out mem1 kind).mono ?_; rintro z w12 ⟨rfl, h12⟩; have c4 : w12.cell? ⟨g9, 4, none⟩ = some vb := h12.blk_cell mem1 4; have H12 := hide h12; clear h12 H11)
            | (go_at_call 59; refine (IHB.out _ _ _ _ _ _ H12.out mem2 kind).mono ?_; rintro z w13 ⟨rfl, h13⟩; have H13 := hide h13; clear h13 H12))
          go_roundw
          case rel => exact ⟨k + 1, by omega, by go_num, by rw [putAll_succ kvs kind hlt HX.out, if_pos HK2.out]; exact H13.out.d1.d1.d1.d1⟩
          case measure => simp [intOf]; omega
        · have hkb : (x.kind == kind) = false := by simp [hk2]
          have HK2 := hide hk2
          clear hk2
          go_wp2_with (first
            | (with_reducible refine wpList_load_ag (cs := [.int .i64 x.kind, .int .i64 x.pos, sv x.name, va, vb]) rfl agStmt (.tmp 12) rfl rfl rfl HCS.out ?_)
            | ((with_reducible refine wpList_alloc_ag rfl agStmt rfl H3.out ?_); intro g9 w9 h9; have H9 := hide h9; clear h9 H3)
            | ((with_reducible refine wpList_store_ag (cs := [.int .i64 x.kind, .int .i64 x.pos, sv x.name, va, vb]) rfl agStmt (.tmp 7) (.tmp 13) rfl rfl rfl rfl rfl HONE.out H9.out ?_); intro w10 h10; have c0 : w10.cell? ⟨g9, 0, none⟩ = some (.int .i64 x.kind) := h10.blk_cell List.mem_cons_self 0; have c3 : w10.cell? ⟨g9, 3, none⟩ = some va := h10.blk_cell List.mem_cons_self 3; have H11 := hide h10.f4; clear h10 H9)
            | (go_at_call 59; refine (IHA.out _ _ _ _ _ _ H11.out mem1 kind).mono ?_; rintro z w12 ⟨rfl, h12⟩; have c4 : w12.cell? ⟨g9, 4, none⟩ = some vb := h12.blk_cell mem1 4; have H12 := hide h12; clear h12 H11)
            | (go_at_call 59; refine (IHB.out _ _ _ _ _ _ H12.out mem2 kind).mono ?_; rintro z w13 ⟨rfl, h13⟩; have H13 := hide h13; clear h13 H12))
          go_roundw
          case rel => exact ⟨k + 1, by omega, by go_num, by rw [putAll_succ kvs kind hlt HX.out, if_neg HK2.out]; exact H13.out.d1.d1.d1.d1⟩
          case measure => simp [intOf]; omega
      · have hke : l.toL.take k = l.toL := List.take_of_length_le (by omega)
        have hf : St b (HP.set mb (putAll kvs (names kind l)) :: L) wr := by rw [names_toL, ← hke]; exact H1.out
        have HF := hide hf
        clear hke hf H1
        go_wp2_with fail
        go_end0
        exact ⟨rfl, HF.out⟩
theorem gnamed_calls (l : Stms) : GNamed l := gnamed_all l.size l rfl
end Go.Proofs.Ytmebmgbjpbapjaa
