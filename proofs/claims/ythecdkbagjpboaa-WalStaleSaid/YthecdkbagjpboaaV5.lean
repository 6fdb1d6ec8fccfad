/-
  deadboltref3: part.
-/
import Derived.Test.YthecdkbagjpboaaV4
namespace Go.Proofs.Ythecdkbagjpboaa
open Go.RowKit Go.Maps Go.MapKept
variable {b : Env} {L : List HP} {w : World}
theorem rread_st {gx : Nat} {r : Rk} (h : St b (HP.ref gx r :: L) w) (hOk : r.Ok) (n : Int) : Calls Try.prog 41 #[.pointer (some ⟨gx, 0, none⟩), .int .i64 n] w fun x w' => ∃ base cap, x = .returned (.tuple #[.slice base (r.readB n).length cap, .int .i64 (r.readR n)]) ∧ St b (HP.rows 5 byteE (.slice base (r.readB n).length cap) (r.readB n) :: HP.ref gx r :: L) w' := by
  obtain ⟨e, hl, hs⟩ := h
  refine (rread_calls hs hOk n).mono ?_
  rintro x w' ⟨base, cap, rfl, h'⟩
  exact ⟨base, cap, rfl, e, hl, Sat.rows_shut (cs := (r.readB n).map B8) h' (rds_bytes e.h _)⟩
set_option linter.unusedSimpArgs false in
set_option maxRecDepth 100000 in
set_option maxHeartbeats 4000000 in
theorem rpart_calls {gx : Nat} {r : Rk} {l : Byt} (h : St b (HP.ref gx r :: L) w) (hOk : r.Ok) (n : Int) (hR : r.readR n = 0) (hB : r.readB n = l) (hl : l.length = 64) :
    Calls Try.prog 43 #[.pointer (some ⟨gx, 0, none⟩), .int .i64 n] w fun x w' =>
      (∃ p vd, parseB l = some p ∧ x = .returned (.tuple #[.agg #[.int .i64 (p.gen : Nat), .int .i64 (p.rc : Nat), .int .i64 (p.n : Nat), .int .i64 (p.of : Nat), vd], .bool true]) ∧ St b (HP.sl byteE vd p.data :: HP.ref gx r :: L) w') ∨
      (parseB l = none ∧ x = .returned (.tuple #[.agg #[.int .i64 0, .int .i64 0, .int .i64 0, .int .i64 0, .slice none 0 0], .bool false]) ∧ St b (HP.ref gx r :: L) w') := by
  have H := hide h
  have HOK := hide hOk
  have HR := hide hR
  have HB := hide hB
  have HL := hide hl
  clear h hOk hR hB hl
  have ONE5 : Hid (∀ (a c d e f : Value), a.oneCell' = true → c.oneCell' = true → d.oneCell' = true → e.oneCell' = true → f.oneCell' = true → ∀ v ∈ [a, c, d, e, f], v.oneCell' = true) := hide (by intro a c d e f h1 h2 h3 h4 h5 v hv; simp only [List.mem_cons, List.not_mem_nil, or_false] at hv; rcases hv with rfl | rfl | rfl | rfl | rfl <;> assumption)
  rcases hp : parseB l with _ | p
  · have HPN := hide hp
    clear hp
    go_enter Try.func43, Try.ntmps43
    go_wp2_with (first
      | ((with_reducible refine wpList_alloc_ag rfl agPartX rfl H.out ?_); intro g2 w1 h1; have H1 := hide h1.f1; clear h1 H)
      | (go_at_call 41; refine (rread_st H1.out HOK.out n).mono ?_; rintro z w2 ⟨b3, c3, rfl, h3⟩; rw [HB.out, HL.out] at h3; rw [HB.out, HL.out, HR.out]; obtain ⟨g3, rfl⟩ := h3.rows_base mem0 (by rw [HL.out]; decide); have H3 := hide h3.persist; clear h3 H1)
      | (go_at_call 64; refine (rparse_calls H3.out mem0).mono ?_; rintro z w4 (⟨p9, v9, hp9, rfl, h4⟩ | ⟨hp9, rfl, h4⟩); (rw [HPN.out] at hp9; cases hp9); clear hp9; have H4 := hide h4.f2; clear h4 H3)
      | ((with_reducible refine wpList_store_ag (cs := [.int .i64 0, .int .i64 0, .int .i64 0, .int .i64 0, .slice none 0 0]) rfl agPartX (.tmp 4) (.tmp 19) rfl rfl rfl rfl rfl (ONE5.out _ _ _ _ _ rfl rfl rfl rfl rfl) H4.out ?_); intro w20 h20; have H20 := hide h20; clear h20 H4))
    (try simp only [Exit.inBlock, Exit.then])
    have hb2 := H20.out.mem_blk mem0
    refine bodyPost_ret (results_cell_row2 rfl _ _ g2 _ _ _ _ rfl hb2 Try.underlying91 rfl szPartX) rfl ?_
    exact Or.inr ⟨trivial, rfl, H20.out.drop.drop⟩
  · have HPN := hide hp
    clear hp
    go_enter Try.func43, Try.ntmps43
    go_wp2_with (first
      | ((with_reducible refine wpList_alloc_ag rfl agPartX rfl H.out ?_); intro g2 w1 h1; have H1 := hide h1.f1; clear h1 H)
      | (go_at_call 41; refine (rread_st H1.out HOK.out n).mono ?_; rintro z w2 ⟨b3, c3, rfl, h3⟩; rw [HB.out, HL.out] at h3; rw [HB.out, HL.out, HR.out]; obtain ⟨g3, rfl⟩ := h3.rows_base mem0 (by rw [HL.out]; decide); have H3 := hide h3.persist; clear h3 H1)
      | (go_at_call 64; refine (rparse_calls H3.out mem0).mono ?_; rintro z w4 (⟨p9, v9, hp9, rfl, h4⟩ | ⟨hp9, rfl, h4⟩); rotate_left; (rw [HPN.out] at hp9; cases hp9); rw [HPN.out] at hp9; cases hp9; obtain ⟨b9, c9, rfl, -⟩ := h4.sl_form mem0; have H4 := hide h4.f3; clear h4 H3)
      | ((with_reducible refine wpList_store_ag (cs := [.int .i64 (p.gen : Nat), .int .i64 (p.rc : Nat), .int .i64 (p.n : Nat), .int .i64 (p.of : Nat), .slice b9 p.data.length c9]) rfl agPartX (.tmp 4) (.tmp 19) rfl rfl rfl rfl rfl (ONE5.out _ _ _ _ _ rfl rfl rfl rfl rfl) H4.out ?_); intro w20 h20; have H20 := hide h20; clear h20 H4))
    (try simp only [Exit.inBlock, Exit.then])
    have hb2 := H20.out.mem_blk mem0
    refine bodyPost_ret (results_cell_row2 rfl _ _ g2 _ _ _ _ rfl hb2 Try.underlying91 rfl szPartX) rfl ?_
    exact Or.inl ⟨p, _, rfl, rfl, H20.out.drop.d1⟩
end Go.Proofs.Ythecdkbagjpboaa
