/-
  No program in sight: one law for the walk at each kind of operation that touches chunks.
-/
import Derived.Test.YtcgnkloljfgiaaaGreatDoorMp
import Derived.Test.YtcgnkloljfgiaaaGreatDoorSv
import Derived.Maps.OwnOps
import Derived.Maps.OwnSet
import Derived.Laws.BytesString
import Derived.Laws.IdiomCopy
import Derived.StillTailTactics
namespace Go.Proofs.YtcgnkloljfgiaaaGreatDoor
open Go.RowKit Go.Maps Go.MapKept

section
variable {P : Program} {ops : Array Oper} {rest : List Oper} {o : Oper} {a : Act} {w : World} {Q : Exit → Act → World → Prop}

theorem wpList_val (hg : o.guard = none) {v : Value} {w' : World} (hrun : (execOp a.eval o).run P w = .ok (.value v) w') (h : wpList P ops Q rest (a.put o.dst v) w') : wpList P ops Q (o :: rest) a w := by
  refine wpList_plain hg fun K hK => ?_
  unfold Oper.wp
  rw [hrun, Oper.upon_value]
  exact hK _ _ h

theorem wpList_val_g (hg : Region.wanted o (yielded ops a.tmps) = true) {v : Value} {w' : World} (hrun : (execOp a.eval o).run P w = .ok (.value v) w') (h : wpList P ops Q rest (a.put o.dst v) w') : wpList P ops Q (o :: rest) a w := by
  refine wpList_step fun K hK => ?_
  rw [if_pos hg]
  unfold Oper.wp
  rw [hrun, Oper.upon_value]
  exact hK _ _ h

theorem wpStill_val {S : Act → Prop} (hg : o.guard = none) {v : Value} (hrun : (execOp a.eval o).run P w = .ok (.value v) w) (h : wpStill P ops w S rest (a.put o.dst v)) : wpStill P ops w S (o :: rest) a := by
  refine wpStill_step fun K hK => ?_
  simp only [Region.wanted, hg, if_true]
  have : wpStill P ops w S rest (a.put o.dst v) → K (a.put o.dst v) := hK _
  unfold Oper.still
  rw [hrun, Oper.stillUpon_value]
  exact this h

theorem wpList_unit (hg : o.guard = none) {w' : World} (hrun : (execOp a.eval o).run P w = .ok .skip w') (h : wpList P ops Q rest (a.put o.dst undef) w') : wpList P ops Q (o :: rest) a w := by
  refine wpList_plain hg fun K hK => ?_
  unfold Oper.wp
  rw [hrun, Oper.upon_skip]
  exact hK _ _ h

/-- A new variable: its block, in a world of which the chunks are known. -/
theorem wpList_alloc_sl (hg : o.guard = none) (T : TypeId) (ho : o.op = .alloc T) {z : Value} (hz : (zeroValue T).run P w = .ok z w) {e : Env} {L : List HP} (hs : Sat e L w)
    (h : ∀ g w', Sat e (HP.blk g (.cells z.cells T) :: L) w' → wpList P ops Q rest (a.put o.dst (.pointer (some ⟨g, 0, none⟩))) w') : wpList P ops Q (o :: rest) a w := by
  refine wpList_val hg (w' := w.alloc (.cells z.cells T)) ?_ (h w.heap.size _ (hs.alloc _))
  simp [execOp, ho, Instr.alloc, hz, newVar, newRow]

/-- Is the type one of many cells? -/
def aggB : TypeDesc → Bool
  | .struct _ | .array _ _ => true
  | _ => false

theorem run_isAgg {T : TypeId} {d : TypeDesc} (hu : P.underlying T = some d) (hd : aggB d = true) (w : World) : (isAgg T).run P w = .ok true w := by
  unfold isAgg
  rw [Sem.run_bind, run_underlying hu w]
  cases d <;> simp_all [aggB]

theorem run_load_agg {T : TypeId} {d : TypeDesc} {b off : Nat} {cs : List Value} (hu : P.underlying T = some d) (hd : aggB d = true) (hi : (P.info? T).map (·.size) = some cs.length)
    (hc : ∀ j u, cs[j]? = some u → w.cell? ⟨b, off + j, none⟩ = some u) : (loadVar T ⟨b, off, none⟩).run P w = .ok (.agg cs.toArray) w := by
  have hl := run_loadCells_list (P := P) w ⟨b, off, none⟩ cs (fun j v hv => by rw [Addr.add_lit]; exact hc j v hv)
  cases hq : P.info? T with
  | none => simp [hq] at hi
  | some i =>
    have hs : i.size = cs.length := by simpa [hq] using hi
    simp [loadVar, run_isAgg hu hd, sizeOf, typeInfo, hq, hs, hl]

theorem wpList_load_agg (hg : o.guard = none) (T : TypeId) (x : Operand) (ho : o.op = .load T x) {d : TypeDesc} (hu : P.underlying T = some d) (hd : aggB d = true) {cs : List Value} (hi : (P.info? T).map (·.size) = some cs.length)
    {b off : Nat} (hx : a.eval x = .pointer (some ⟨b, off, none⟩)) (hc : ∀ j u, cs[j]? = some u → w.cell? ⟨b, off + j, none⟩ = some u)
    (h : wpList P ops Q rest (a.put o.dst (.agg cs.toArray)) w) : wpList P ops Q (o :: rest) a w :=
  wpList_val hg (by simp [execOp, ho, hx, Instr.loadAt, Instr.sureAddr, run_load_agg hu hd hi hc]) h

theorem wpStill_load_agg {S : Act → Prop} (hg : o.guard = none) (T : TypeId) (x : Operand) (ho : o.op = .load T x) {d : TypeDesc} (hu : P.underlying T = some d) (hd : aggB d = true) {cs : List Value} (hi : (P.info? T).map (·.size) = some cs.length)
    {b off : Nat} (hx : a.eval x = .pointer (some ⟨b, off, none⟩)) (hc : ∀ j u, cs[j]? = some u → w.cell? ⟨b, off + j, none⟩ = some u)
    (h : wpStill P ops w S rest (a.put o.dst (.agg cs.toArray))) : wpStill P ops w S (o :: rest) a :=
  wpStill_val hg (by simp [execOp, ho, hx, Instr.loadAt, Instr.sureAddr, run_load_agg hu hd hi hc]) h

theorem run_arrayAt {T el n : Nat} (hu : P.underlying T = some (.array n el)) (p : Option Addr) (len cap : Nat) (h : n ≤ len) : (Instr.arrayAt T (.slice p len cap)).run P w = .ok (.pointer p) w := by
  have : ¬ len < n := by omega
  simp [Instr.arrayAt, run_underlying hu, this]

/-- A row with cells laid over it. -/
def laid (c : Array Value) (off : Nat) (cs : List Value) : Array Value := (c.toList.take off ++ cs ++ c.toList.drop (off + cs.length)).toArray

theorem laid_size {c : Array Value} {off : Nat} {cs : List Value} (h : off + cs.length ≤ c.size) : (laid c off cs).size = c.size := by
  simp [laid]; omega

theorem Sat.storeCells {e : Env} {L : List HP} {b off : Nat} {c : Array Value} {E : TypeId} {cs : List Value} (h : Sat e (HP.blk b (.cells c E (0, 0)) :: L) w) (hfit : off + cs.length ≤ c.size) (h1 : ∀ v ∈ cs, v.oneCell' = true) :
    (Go.storeCells ⟨b, off, none⟩ cs).run P w = .ok () (w.setRow b (laid c off cs)) ∧ Sat e (HP.blk b (.cells (laid c off cs) E (0, 0)) :: L) (w.setRow b (laid c off cs)) := by
  have hst := run_storeCells_at P b off E cs 0 c w h.at (by simpa using hfit) h1
  simp only [Nat.add_zero] at hst
  exact ⟨hst, h.upd rfl rfl rfl (by simp) (fun k _ hk => setRow_other w b k _ hk) (setRow_heap w b c _ E _ h.at) (Or.inl rfl)⟩

theorem wpList_store_agg (hg : o.guard = none) (T : TypeId) (x y : Operand) (ho : o.op = .store T x y) {cs : List Value} (hi : (P.info? T).map (·.size) = some cs.length)
    {b off : Nat} (hx : a.eval x = .pointer (some ⟨b, off, none⟩)) (hy : a.eval y = .agg cs.toArray) (h1 : ∀ v ∈ cs, v.oneCell' = true)
    {e : Env} {L : List HP} {c : Array Value} {E : TypeId} (hs : Sat e (HP.blk b (.cells c E (0, 0)) :: L) w) (hfit : off + cs.length ≤ c.size)
    (h : ∀ w', Sat e (HP.blk b (.cells (laid c off cs) E (0, 0)) :: L) w' → wpList P ops Q rest (a.put o.dst undef) w') : wpList P ops Q (o :: rest) a w := by
  obtain ⟨hst, hs'⟩ := hs.storeCells (P := P) hfit h1
  refine wpList_unit hg ?_ (h _ hs')
  cases hq : P.info? T with
  | none => simp [hq] at hi
  | some i =>
    have hsz : i.size = cs.length := by simpa [hq] using hi
    simp [execOp, ho, hx, hy, Instr.storeAt, Instr.sureAddr, storeVar, Value.cells, sizeOf, typeInfo, hq, hsz, hst]

theorem wpList_lookup_sl (hg : o.guard = none) (t : TypeId) (x i : Operand) (c : Bool) (ho : o.op = .lookup t x i c) {k el : TypeId} {κ α : Type} [DecidableEq κ] {ek : κ → Value} {ok : κ → Prop} {ev : α → Value} (K : KeyOk P k ek ok)
    (ht : P.underlying t = some (.map k el)) {z : Value} (hz : (zeroValue el).run P w = .ok z w) {b : Nat} (hx : a.eval x = .map (some b)) (q : κ) (hi : a.eval i = ek q) (hq : ok q)
    {e : Env} {L : List HP} {kvs : List (κ × α)} (hs : Sat e (HP.map ek ok ev b kvs :: L) w)
    (h : wpList P ops Q rest (a.put o.dst (if c then .tuple #[((kget kvs q).map ev).getD z, .bool (kget kvs q).isSome] else ((kget kvs q).map ev).getD z)) w) : wpList P ops Q (o :: rest) a w :=
  wpList_val hg (by simp only [execOp, ho, hx, hi, Sem.run_bind, run_lookup K hs ht hz q hq c, Result.andThen_ok]; rfl) h

theorem wpList_mapUpdate_sl (hg : o.guard = none) (t : TypeId) (m i v : Operand) (ho : o.op = .mapUpdate t m i v) {k el : TypeId} {κ α : Type} [DecidableEq κ] {ek : κ → Value} {ok : κ → Prop} {ev : α → Value} (K : KeyOk P k ek ok)
    (ht : P.underlying t = some (.map k el)) {b : Nat} (hm : a.eval m = .map (some b)) (q : κ) (hi : a.eval i = ek q) (hq : ok q) (x : α) (hv : a.eval v = ev x)
    {e : Env} {L : List HP} {kvs : List (κ × α)} (hs : Sat e (HP.map ek ok ev b kvs :: L) w)
    (h : ∀ w', Sat e (HP.map ek ok ev b (kput kvs q x) :: L) w' → wpList P ops Q rest (a.put o.dst undef) w') : wpList P ops Q (o :: rest) a w := by
  obtain ⟨w', hrun, hs'⟩ := run_mapUpdate K hs ht q hq x
  exact wpList_unit hg (by simp only [execOp, ho, hm, hi, hv, Sem.run_bind, hrun, Result.andThen_ok]; rfl) (h w' hs')

theorem wpList_delete_sl (hg : o.guard = none) (t q' : TypeId) (m i : Operand) (ho : o.op = .call { callee := .builtin .delete, args := #[m, i], argTypes := #[t, q'] }) {k el : TypeId} {κ α : Type} [DecidableEq κ] {ek : κ → Value} {ok : κ → Prop} {ev : α → Value} (K : KeyOk P k ek ok)
    (ht : P.underlying t = some (.map k el)) {b : Nat} (hm : a.eval m = .map (some b)) (q : κ) (hi : a.eval i = ek q) (hq : ok q)
    {e : Env} {L : List HP} {kvs : List (κ × α)} (hs : Sat e (HP.map ek ok ev b kvs :: L) w)
    (h : ∀ w', Sat e (HP.map ek ok ev b (kdel kvs q) :: L) w' → wpList P ops Q rest (a.put o.dst (.tuple #[])) w') : wpList P ops Q (o :: rest) a w := by
  obtain ⟨w', hrun, hs'⟩ := run_delete K hs (ty := o.type) ht q hq q'
  exact wpList_val hg (by simp [execOp, ho, resolve, invoke, builtin, hm, hi, hrun]) (h w' hs')

theorem wpList_clear_sl (hg : o.guard = none) (t : TypeId) (m : Operand) (ho : o.op = .call { callee := .builtin .clear, args := #[m], argTypes := #[t] }) {k el : TypeId} {κ α : Type} {ek : κ → Value} {ok : κ → Prop} {ev : α → Value}
    (ht : P.underlying t = some (.map k el)) {b : Nat} (hm : a.eval m = .map (some b))
    {e : Env} {L : List HP} {kvs : List (κ × α)} (hs : Sat e (HP.map ek ok ev b kvs :: L) w)
    (h : ∀ w', Sat e (HP.map ek ok ev b ([] : List (κ × α)) :: L) w' → wpList P ops Q rest (a.put o.dst (.tuple #[])) w') : wpList P ops Q (o :: rest) a w := by
  obtain ⟨w', hrun, hs'⟩ := run_clear_map hs (ty := o.type) ht
  exact wpList_val hg (by simp [execOp, ho, resolve, invoke, builtin, hm, hrun]) (h w' hs')

theorem wpList_makeMap_sl (hg : o.guard = none) (t : TypeId) (ho : o.op = .makeMap t none) {κ α : Type} (ek : κ → Value) (ok : κ → Prop) (ev : α → Value) {e : Env} {L : List HP} (hs : Sat e L w)
    (h : ∀ b w', Sat e (HP.map ek ok ev b ([] : List (κ × α)) :: L) w' → wpList P ops Q rest (a.put o.dst (.map (some b))) w') : wpList P ops Q (o :: rest) a w :=
  wpList_val hg (w' := w.alloc (.map #[] 0)) (by simp [execOp, ho, Instr.makeMap]) (h _ _ (hs.map_new ek ok ev))

theorem wpList_len_map (hg : o.guard = none) (t : TypeId) (m : Operand) (ho : o.op = .call { callee := .builtin .len, args := #[m], argTypes := #[t] }) {k el : TypeId} {κ α : Type} {ek : κ → Value} {ok : κ → Prop} {ev : α → Value}
    (ht : P.underlying t = some (.map k el)) {b : Nat} (hm : a.eval m = .map (some b))
    {e : Env} {L : List HP} {kvs : List (κ × α)} (hs : Sat e (HP.map ek ok ev b kvs :: L) w)
    (h : wpList P ops Q rest (a.put o.dst (.int .i64 kvs.length)) w) : wpList P ops Q (o :: rest) a w :=
  wpList_val hg (by simp [execOp, ho, resolve, invoke, builtin, hm, run_len_map hs (ty := o.type) ht]) h

theorem wpList_append_sl (hg : o.guard = none) (s x : Operand) (t : TypeId) (ho : o.op = .call { callee := .builtin .append, args := #[s, x], argTypes := #[t, t] })
    {E : TypeId} {i : TypeInfo} {z : Value} {size bytes : Nat} (ht : P.underlying t = some (.slice E)) (hi : P.info? E = some i) (hz : i.zero = some z) (hsize : i.size = size) (hby : i.bytes = bytes) (hzs : z.cells.size = size) (hsz : 0 < size)
    {v sv : Value} {e : Env} {L : List HP} {n m : Nat} {xs news : List Value} (hs : Sat e (HP.row E size v n xs :: L) w) (H : View (World.frag w) sv m news) (hv : a.eval s = v) (hx : a.eval x = sv) (hl : news.length = m * size) (h1 : ∀ u ∈ news, u.oneCell' = true)
    (h63 : n + m ≤ maxLen) (hbytes : (n + m) * bytes ≤ 140737488355328)
    (h : ∀ v' w', Sat e (HP.row E size v' (n + m) (xs ++ news) :: L) w' → (v' = .slice none 0 0 ↔ v = .slice none 0 0 ∧ m = 0) → wpList P ops Q rest (a.put o.dst v') w') : wpList P ops Q (o :: rest) a w := by
  obtain ⟨v', w', hrun, hs', hn⟩ := run_append_sl (ty := o.type) ht hi hz hsize hby hzs hsz hs H hl h1 h63 hbytes
  exact wpList_val hg (by simp [execOp, ho, resolve, invoke, builtin, hv, hx, hrun]) (h v' w' hs' hn)

theorem wpList_make_sl (hg : o.guard = none) (l c : Operand) (t : TypeId) (ho : o.op = .makeSlice t l c) {E : TypeId} {i : TypeInfo} {z : Value} {size bytes : Nat} (ht : P.underlying t = some (.slice E)) (hi : P.info? E = some i) (hz : i.zero = some z) (hsize : i.size = size) (hby : i.bytes = bytes)
    {kl kc : IntKind} {vl vc : Int} (n : Nat) (hl : a.eval l = .int kl vl) (hc : a.eval c = .int kc vc) (el : vl = n) (ec : vc = n) {e : Env} {L : List HP} (hs : Sat e L w) (hbytes : bytes * n ≤ 140737488355328) (h63 : n ≤ maxLen)
    (h : ∀ g w', Sat e (HP.row E size (.slice (some ⟨g, 0, none⟩) n n) n (madeCells z.cells (n * size)).toList :: L) w' → wpList P ops Q rest (a.put o.dst (.slice (some ⟨g, 0, none⟩) n n)) w') : wpList P ops Q (o :: rest) a w := by
  subst el; subst ec
  obtain ⟨hrun, hs'⟩ := run_make_sl ht hi hz hsize hby hs kl kc n hbytes h63
  exact wpList_val hg (by simp [execOp, ho, hl, hc, hrun]) (h _ _ hs')

theorem wpList_string_sl (hg : o.guard = none) (src dst E : TypeId) (x : Operand) (ho : o.op = .convert src dst x) (hs : P.underlying src = some (.slice E)) (he : P.underlying E = some (.int .u8)) (hd : P.underlying dst = some .string)
    {v : Value} {l : List UInt8} (H : View (World.frag w) v l.length (l.map B8)) (hx : a.eval x = v) (h : wpList P ops Q rest (a.put o.dst (.string ⟨l.toArray⟩)) w) : wpList P ops Q (o :: rest) a w := by
  have hr := run_bytes_string (P := P) H
  obtain ⟨base, cap, rfl, _⟩ := H
  exact wpList_val hg (by simp [execOp, ho, hx, run_convert_bytes_string w src dst E base _ cap hs he hd, hr]) h

theorem wpList_string_g (src dst E : TypeId) (x : Operand) (ho : o.op = .convert src dst x) (hs : P.underlying src = some (.slice E)) (he : P.underlying E = some (.int .u8)) (hd : P.underlying dst = some .string)
    {v : Value} {l : List UInt8} (H : View (World.frag w) v l.length (l.map B8)) (hx : a.eval x = v) (hg : Region.wanted o (yielded ops a.tmps) = true) (h : wpList P ops Q rest (a.put o.dst (.string ⟨l.toArray⟩)) w) : wpList P ops Q (o :: rest) a w := by
  have hr := run_bytes_string (P := P) H
  obtain ⟨base, cap, rfl, _⟩ := H
  exact wpList_val_g hg (by simp [execOp, ho, hx, run_convert_bytes_string w src dst E base _ cap hs he hd, hr]) h

theorem run_conv_bytes {src dst E : TypeId} (hs : P.underlying src = some (.slice E)) (he : P.underlying E = some (.int .u8)) (hd : P.underlying dst = some .string) {v : Value} {l : List UInt8} (H : View (World.frag w) v l.length (l.map B8)) :
    (convert src dst v).run P w = .ok (.string ⟨l.toArray⟩) w := by
  have hr := run_bytes_string (P := P) H
  obtain ⟨base, cap, rfl, _⟩ := H
  rw [run_convert_bytes_string w src dst E base _ cap hs he hd, hr]

/-- 'copy' into a block that is owned: as many cells as the shorter one has. -/
theorem wpList_copy_sl (hg : o.guard = none) (dx sx : Operand) (dT sT : TypeId) (ho : o.op = .call { callee := .builtin .copy, args := #[dx, sx], argTypes := #[dT, sT] }) {E' : TypeId} (hu : P.underlying dT = some (.slice E')) (hi : (P.info? E').map (·.size) = some 1)
    {b off n cap m : Nat} {sv : Value} (hd : a.eval dx = .slice (some ⟨b, off, none⟩) n cap) {xs : List Value} (H : View (World.frag w) sv m xs) (hx : a.eval sx = sv) (hl : xs.length = m) (h1 : ∀ u ∈ xs, u.oneCell' = true)
    {e : Env} {L : List HP} {c : Array Value} {E : TypeId} (hs : Sat e (HP.blk b (.cells c E (0, 0)) :: L) w) (hfit : off + n ≤ c.size)
    (h : ∀ w', Sat e (HP.blk b (.cells (laid c off (xs.take n)) E (0, 0)) :: L) w' → wpList P ops Q rest (a.put o.dst (.int .i64 (Nat.min m n))) w') : wpList P ops Q (o :: rest) a w := by
  have hk : (xs.take n).length = Nat.min m n := by rw [List.length_take, hl]; exact Nat.min_comm n m
  have hk2 : off + (xs.take n).length ≤ c.size := by rw [List.length_take]; omega
  by_cases h0 : Nat.min m n = 0
  · obtain ⟨base, cap', rfl, _⟩ := H
    have hr := run_copy_none (P := P) w dT sT o.type E' (some ⟨b, off, none⟩) base n cap m cap' hu hi h0
    have hnil : xs.take n = [] := List.eq_nil_of_length_eq_zero (by rw [hk, h0])
    have e1 : laid c off (xs.take n) = c := by rw [hnil]; simp [laid]
    have := h w (by rw [e1]; exact hs)
    rw [h0] at this
    exact wpList_val hg (by simp [execOp, ho, resolve, invoke, builtin, hd, hx, hr, goInt]) this
  · have hne : xs ≠ [] := fun hx => by rw [hx] at hl; simp at hl; apply h0; rw [← hl]; exact Nat.zero_min n
    obtain ⟨b', o', cap', rfl, hc⟩ := H.cells hne
    have hr := run_copy_row (P := P) w dT sT o.type E' b off n cap ⟨b', o', none⟩ m cap' c E (xs.take n) hu hi hs.at hk (fun j u hj => by
      rw [Addr.add_lit]
      rw [List.getElem?_take] at hj
      split at hj
      · exact hc j u hj
      · cases hj) hk2 (fun u hu => h1 u (List.mem_of_mem_take hu))
    have hs' : Sat e (HP.blk b (.cells (laid c off (xs.take n)) E (0, 0)) :: L) (w.setRow b (laid c off (xs.take n))) :=
      hs.upd rfl rfl rfl (by simp) (fun k _ hk => setRow_other w b k _ hk) (setRow_heap w b c _ E _ hs.at) (Or.inl rfl)
    have := h _ hs'
    have hr2 : (Builtin.copy_ #[dT, sT] o.type #[.slice (some ⟨b, off, none⟩) n cap, .slice (some ⟨b', o', none⟩) m cap']).run P w = .ok (.int .i64 (Nat.min m n)) (w.setRow b (laid c off (xs.take n))) := by
      rw [hr]; unfold laid goInt; rw [hk]
    exact wpList_val hg (by simp [execOp, ho, resolve, invoke, builtin, hd, hx, hr2]) this
end

/-- A struct or an array that a function hands back out of memory. -/
theorem results_agg {P : Program} {fn : Func} {p : Tmp} {T : TypeId} (h : fn.results = #[.cell p T]) (tmps : Array Value) (w : World) {d : TypeDesc} (hu : P.underlying T = some d) (hd : aggB d = true) {cs : List Value} (hi : (P.info? T).map (·.size) = some cs.length)
    {b off : Nat} (hp : tmps.getD p undef = .pointer (some ⟨b, off, none⟩)) (hc : ∀ j u, cs[j]? = some u → w.cell? ⟨b, off + j, none⟩ = some u) : (results fn tmps).run P w = .ok (.agg cs.toArray) w := by
  have hp' : tmps[p]?.getD undef = .pointer (some ⟨b, off, none⟩) := by simpa using hp
  simp [results, h, hp', asAddr, run_load_agg hu hd hi hc]

theorem laid_whole {c : Array Value} {cs : List Value} (h : c.size = cs.length) : laid c 0 cs = cs.toArray := by
  simp [laid, List.drop_eq_nil_of_le (show c.toList.length ≤ cs.length by simp [h])]

theorem get_of_toArray {w : World} {g : Nat} {cs : List Value} {T : TypeId} {fz : Nat × Nat} (h : w.heap[g]? = some (.cells cs.toArray T fz)) : ∀ (j : Nat) u, cs[j]? = some u → w.cell? ⟨g, 0 + j, none⟩ = some u := by
  intro j u hj
  rw [cell_of h]; simpa using hj

theorem view_of_toArray {w : World} {g : Nat} {cs : List Value} {T : TypeId} {fz : Nat × Nat} (h : w.heap[g]? = some (.cells cs.toArray T fz)) (n cap : Nat) : View (World.frag w) (.slice (some ⟨g, 0, none⟩) n cap) n cs :=
  View.mk h (fun j u hj => by simpa using hj)

theorem row_of_toArray {e : Env} {L : List HP} {w : World} {g : Nat} {cs : List Value} {T : TypeId} (h : Sat e (HP.blk g (.cells cs.toArray T) :: L) w) {n size : Nat} (hn : cs.length = n * size) (h2 : n ≤ maxLen) : Sat e (HP.row T size (.slice (some ⟨g, 0, none⟩) n n) n cs :: L) w :=
  h.row_shut (Nat.le_refl n) h2 (by simpa using hn) (by rw [← hn]; simp)

/-- An owned slice that fills its block is that block. -/
theorem Sat.row_blk {e : Env} {L : List HP} {w : World} {E : TypeId} {size g n : Nat} {xs : List Value} (h : Sat e (HP.row E size (.slice (some ⟨g, 0, none⟩) n n) n xs :: L) w) : Sat e (HP.blk g (.cells xs.toArray E) :: L) w := by
  obtain ⟨hl, ⟨hx, _⟩ | ⟨g', cap, cur, hv, _, _, hc3, hc4, h3⟩⟩ := h.row_open
  · cases hx
  · simp only [Value.slice.injEq, Option.some.injEq, Addr.mk.injEq, and_true, true_and] at hv
    obtain ⟨rfl, rfl⟩ := hv
    rw [List.take_of_length_le (by simp; omega)] at hc4
    rw [← hc4]
    exact h3

theorem Sat.row_base {e : Env} {L : List HP} {w : World} {E : TypeId} {size n m cap : Nat} {base : Option Addr} {xs : List Value} (h : Sat e (HP.row E size (.slice base m cap) n xs :: L) w) (hn : 0 < n) : ∃ g, base = some ⟨g, 0, none⟩ := by
  obtain ⟨hl, ⟨hx, h0, _⟩ | ⟨g', cap', cur, hv, hc1, hc2, hc3, hc4, h3⟩⟩ := h.row_open
  · omega
  · simp only [Value.slice.injEq] at hv
    exact ⟨g', hv.1⟩

/-- A cell of an owned slice: read, and written. -/
theorem Sat.row_cell {e : Env} {L : List HP} {w : World} {E : TypeId} {size g n cap : Nat} {xs : List Value} (h : Sat e (HP.row E size (.slice (some ⟨g, 0, none⟩) n cap) n xs :: L) w) {i : Nat} (hi : i < xs.length) :
    w.cell? ⟨g, i, none⟩ = xs[i]? ∧ w.frozen? ⟨g, i, none⟩ = false ∧ ∀ v, Sat e (HP.row E size (.slice (some ⟨g, 0, none⟩) n cap) n (xs.set i v) :: L) (w.setCell ⟨g, i, none⟩ v) := by
  obtain ⟨hl, ⟨hx, _⟩ | ⟨g', cap', cur, hv, hc1, hc2, hc3, hc4, h3⟩⟩ := h.row_open
  · cases hx
  · simp only [Value.slice.injEq, Option.some.injEq, Addr.mk.injEq, and_true, true_and] at hv
    obtain ⟨rfl, rfl⟩ := hv
    have hlt : i < n * size := by omega
    have hsz : n * size ≤ cur.size := by rw [hc3]; exact Nat.mul_le_mul_right _ hc1
    refine ⟨?_, unfrozen_of h3.at i, fun v => (h3.setCell (i := i) v).row_shut hc1 hc2 (by simpa using hc3) ?_⟩
    · rw [cell_of h3.at, ← hc4, List.getElem?_take, if_pos hlt]; simp
    · rw [← hc4, Array.toList_setIfInBounds, List.take_set]

theorem set_toArray (cs : List Value) (i : Nat) (v : Value) : cs.toArray.setIfInBounds i v = (cs.set i v).toArray := by simp
end Go.Proofs.YtcgnkloljfgiaaaGreatDoor
