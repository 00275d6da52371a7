/- strings.Builder's contracts, as they hold in this program. head.either[string]. head.Encode, where the number has room in the first byte. -/
import Derived.Shelf.Strings.BuilderK
import Derived.Test.YtllfaffbaijgfaaGreatDoorJ01
import Derived.Test.YtllfaffbaijgfaaGreatDoorJ22
import Derived.Test.YtllfaffbaijgfaaGreatDoorJ21
import Derived.Deep.CutRange
import Derived.Test.YtllfaffbaijgfaaGreatDoorJ18
import Derived.Test.YtllfaffbaijgfaaGreatDoorJ08
import Derived.Laws.BytesArg
set_option linter.unusedVariables false
set_option linter.unusedSimpArgs false
namespace Go.Proofs.YtllfaffbaijgfaaGreatDoor
open Go Go.RowKit Go.Shelf

def bren : Ren := ⟨fun | 166 => 231 | 169 => 232 | 240 => 301 | 276 => 341 | n => n,
  fun | 70 => 295 | 9 => 9 | 0 => 0 | 72 => 297 | 37 => 107 | 127 => 409 | 3 => 3 | 4 => 4 | 5 => 5 | 20 => 20 | 75 => 78 | 80 => 304 | 164 => 226 | n => n, fun | n => n⟩
theorem bx72 : Builder.X72 Tryz.prog bren where
  sizeBuilder := by kernel_rfl
  liesBuilder := by kernel_rfl
theorem bextra : Builder.Extra Tryz.prog bren where
  sizeBuilder := by kernel_rfl
  liesBuilder := by kernel_rfl
  t5 := Tryz.underlying5
  a5 := Tryz.isAgg5
  z5 := Tryz.sizeOf5
  v5 := Tryz.zeroValue5
  infoByte := by kernel_rfl
  cellsByte := by kernel_rfl
  sizeByte := by kernel_rfl
  neB5 := by decide
theorem blays166 : Lays.n166 Tryz.prog bren where
  mixed := by kernel_rfl
  f166 := Tryz.func231.trans (congrArg some (by kernel_rfl))
  f240 := Tryz.func301.trans (congrArg some (by kernel_rfl))
  f276 := Tryz.func341.trans (congrArg some (by kernel_rfl))
  t0 := Tryz.underlying0
  a0 := Tryz.isAgg0
  z0 := Tryz.sizeOf0
  v0 := Tryz.zeroValue0
  t3 := Tryz.underlying3
  a3 := Tryz.isAgg3
  z3 := Tryz.sizeOf3
  v3 := Tryz.zeroValue3
  t4 := Tryz.underlying4
  a4 := Tryz.isAgg4
  z4 := Tryz.sizeOf4
  v4 := Tryz.zeroValue4
  t9 := Tryz.underlying9
  a9 := Tryz.isAgg9
  z9 := Tryz.sizeOf9
  v9 := Tryz.zeroValue9
  t20 := Tryz.underlying20
  a20 := Tryz.isAgg20
  z20 := Tryz.sizeOf20
  v20 := Tryz.zeroValue20
  t37 := Tryz.underlying107
  a37 := Tryz.isAgg107
  z37 := Tryz.sizeOf107
  v37 := Tryz.zeroValue107
  t70 := Tryz.underlying295
  a70 := Tryz.isAgg295
  z70 := Tryz.sizeOf295
  v70 := Tryz.zeroValue295
  t72 := Tryz.underlying297
  a72 := Tryz.isAgg297
  z72 := Tryz.sizeOf297
  v72 := Tryz.zeroValue297
  t75 := Tryz.underlying78
  a75 := Tryz.isAgg78
  z75 := Tryz.sizeOf78
  v75 := Tryz.zeroValue78
  t164 := Tryz.underlying226
  a164 := Tryz.isAgg226
  z164 := Tryz.sizeOf226
  v164 := Tryz.zeroValue226
theorem blays169 : Lays.n169 Tryz.prog bren where
  mixed := by kernel_rfl
  f169 := Tryz.func232.trans (congrArg some (by kernel_rfl))
  t0 := Tryz.underlying0
  a0 := Tryz.isAgg0
  z0 := Tryz.sizeOf0
  v0 := Tryz.zeroValue0
  t3 := Tryz.underlying3
  a3 := Tryz.isAgg3
  z3 := Tryz.sizeOf3
  v3 := Tryz.zeroValue3
  t9 := Tryz.underlying9
  a9 := Tryz.isAgg9
  z9 := Tryz.sizeOf9
  v9 := Tryz.zeroValue9
  t37 := Tryz.underlying107
  a37 := Tryz.isAgg107
  z37 := Tryz.sizeOf107
  v37 := Tryz.zeroValue107
  t70 := Tryz.underlying295
  a70 := Tryz.isAgg295
  z70 := Tryz.sizeOf295
  v70 := Tryz.zeroValue295
  t72 := Tryz.underlying297
  a72 := Tryz.isAgg297
  z72 := Tryz.sizeOf297
  v72 := Tryz.zeroValue297
  t127 := Tryz.underlying409
  a127 := Tryz.isAgg409
  z127 := Tryz.sizeOf409
  v127 := Tryz.zeroValue409

abbrev BldF := Lib.IsBuilderF 297 5

/-- An append of a string to a row of one's own: the row behind it is that row, or a new one. -/
theorem run_append_str (P : Program) (w : World) (base : Nat) (t u ty e : TypeId) (i : TypeInfo) (ht : P.underlying t = some (.slice e)) (hu : P.underlying u = some .string) (hi : P.info? e = some i) (hz : i.zero = some (.int .u8 0))
    (hsize : i.size = 1) (hby : i.bytes = 1) (v : Value) (n : Nat) (xs : List Value) (hown : w.ownsRow base e 1 v n xs) (s : ByteArray)
    (h63 : n + s.size ≤ maxLen) (hbytes : n + s.size ≤ 140737488355328) (hbase : base ≤ w.heap.size) :
    ∃ v' w', (Builtin.append_ #[t, u] ty #[v, .string s]).run P w = .ok v' w' ∧ w'.ownsRow base e 1 v' (n + s.size) (xs ++ Lib.strCells s) ∧ w.grownBy w' v.ownBlock ∧ (∀ k, v'.ownBlock = some k → v.ownBlock = some k ∨ w.heap.size ≤ k) := by
  have hxl : xs.length = n := by simpa using hown.1
  have hlen : (xs ++ Lib.strCells s).length = (n + s.size) * 1 := by rw [List.length_append, hxl, Lib.strCells_length, Nat.mul_one]
  rcases hown.2 with ⟨rfl, rfl⟩ | ⟨g, cap, cur, rfl, hbg, hg, hnc, hcm, hcs, htake⟩
  · obtain ⟨v', w', h1, h2, h3, _⟩ := Lib.run_append_own_string (P := P) w w.heap.size t u ty e i ht hu hi hz hsize hby (.slice none 0 0) 0 xs ⟨hown.1, .inl ⟨rfl, rfl⟩⟩ s h63 hbytes (Nat.le_refl _)
    refine ⟨v', w', h1, ⟨h2.1, ?_⟩, h3, fun k hk => .inr ?_⟩
    · rcases h2.2 with h | ⟨g, cap, cur, hv, hbg, r⟩
      · exact .inl h
      · exact .inr ⟨g, cap, cur, hv, Nat.le_trans hbase hbg, r⟩
    · rcases h2.2 with ⟨h, _⟩ | ⟨g, cap, cur, hv, hbg, r⟩
      · rw [h] at hk; cases hk
      · rw [hv] at hk; cases hk; exact hbg
  · have hsmall : n + s.size ≤ 9223372036854775807 := by simp only [maxLen] at h63; omega
    by_cases hroom : n + s.size ≤ cap
    · have hcs' : cur.size = cap := by simpa using hcs
      have hr := Lib.run_append_room_string (P := P) w t u ty e i ht hu hi hsize g n cap cur hg s hroom (by omega)
      refine ⟨_, _, hr, ⟨hlen, .inr ⟨g, cap, _, rfl, hbg, setRow_heap w g cur _ e _ hg, hroom, hcm, ?_, ?_⟩⟩, ⟨rfl, rfl, rfl, by simp, fun k _ hk => setRow_other w g k _ (fun e => hk (by simp [Value.ownBlock, e]))⟩, fun k hk => .inl hk⟩
      · simp only [List.size_toArray, List.length_append, List.length_take, List.length_drop, Array.length_toList, Lib.strCells_length]
        omega
      · have ht' : cur.toList.take n = xs := by simpa using htake
        rw [ht', ← hlen]
        exact List.take_left
    · have holds : ∀ j u, xs[j]? = some u → w.cell? ((⟨g, 0, none⟩ : Addr).add j) = some u := hown.cells (g := g) rfl
      have hr := Lib.run_append_grow_string (P := P) w t u ty e i (.int .u8 0) ht hu hi hz ⟨g, 0, none⟩ n cap xs (by rw [hsize]; simpa using hxl) holds s (by omega) (by omega) (by rw [hby]; exact growslice_fits (by omega) (by omega))
      have hge := grownCap_ge w (n + s.size) cap e
      have hcm2 : grownCap w (n + s.size) cap e ≤ maxLen := grownCap_le_maxLen w (n + s.size) cap e h63
      refine ⟨_, _, hr, ⟨hlen, .inr ⟨w.heap.size, _, _, rfl, hbase, heap_alloc_new w.drew _, hge, hcm2, ?_, ?_⟩⟩, ⟨rfl, rfl, rfl, by simp, fun k hk _ => Below.heap_alloc w.drew _ k hk⟩, fun k hk => .inr ?_⟩
      · have hz1 : (Value.int IntKind.u8 0).cells.size = 1 := rfl
        simp only [Array.size_append, List.size_toArray, size_zeroCells, hz1, hxl, Lib.strCells_length]
        omega
      · simp only [Array.toList_append, List.append_assoc]
        rw [← List.append_assoc, ← hlen]
        exact List.take_left
      · cases hk; exact Nat.le_refl _

/-- the same, for the walk -/
theorem wpList_append_str {P : Program} {w : World} {ops : Array Oper} {rest : List Oper} {o : Oper} {a : Act} {Q : Exit → Act → World → Prop} (hgd : o.guard = none) (sl x : Operand) (t u : TypeId)
    (ho : o.op = .call { callee := .builtin .append, args := #[sl, x], argTypes := #[t, u] }) (v : Value) (s : ByteArray) (hs : a.eval sl = v) (hx : a.eval x = .string s) (R : Value → World → Prop)
    (hr : ∃ v' w', (Builtin.append_ #[t, u] o.type #[v, .string s]).run P w = .ok v' w' ∧ R v' w') (h : ∀ v' w', R v' w' → wpList P ops Q rest (a.put o.dst v') w') : wpList P ops Q (o :: rest) a w := by
  refine wpList_plain hgd fun K hK => ?_
  obtain ⟨v', w', hr, h2⟩ := hr
  unfold Oper.wp execOp
  simp only [ho, resolve, invoke, builtin, Sem.run_bind, Sem.run_pure, Result.andThen_ok, List.map_toArray, List.map_cons, List.map_nil, hs, hx, hr]
  exact hK _ _ (h v' w' h2)

/-- a builder of one's own, in block b; what it has written is l; its row is none of M's -/
def Bld (B b : Nat) (M : Nat → Prop) (l : List UInt8) (w : World) : Prop :=
  B ≤ b ∧ ∃ p v, (p = .pointer none ∨ p = .pointer (some ⟨b, 0, none⟩)) ∧ w.heap[b]? = some (.cells #[p, v] 297 (0, 0)) ∧ w.ownsRow B 5 1 v l.length (Lib.byteCells l) ∧ v.ownBlock ≠ some b ∧ ∀ k, v.ownBlock = some k → ¬ M k
theorem Bld.toF {B b : Nat} {M : Nat → Prop} {l : List UInt8} {w : World} (h : Bld B b M l w) : BldF B b (Lib.byteCells l) w := by
  obtain ⟨hB, p, v, hp, hh, hr, hn, _⟩ := h
  have hr' : w.ownsRowF B 5 1 v (Lib.byteCells l).length (Lib.byteCells l) := by rw [Lib.byteCells_length]; exact World.ownsRowF_of hr
  rcases hp with rfl | rfl
  · exact .inl ⟨hB, v, hh, hr', hn⟩
  · exact .inr ⟨hB, v, hh, hr', hn⟩
theorem Bld.alloc (B : Nat) (M : Nat → Prop) (w : World) (hB : B ≤ w.heap.size) : Bld B w.heap.size M [] (w.alloc (.cells #[.pointer none, .slice none 0 0] 297)) :=
  ⟨hB, _, _, .inl rfl, World.alloc_heap_new w _, World.ownsRow_nil _ _ _ _, by simp [Value.ownBlock], fun k hk => by cases hk⟩
/-- the block and the row stand: a builder still -/
theorem Bld.kept {B b : Nat} {M M' : Nat → Prop} {l : List UInt8} {w w' : World} (h : Bld B b M l w) (hk : ∀ k o, w.heap[k]? = some o → o.isCells = true → ¬ M k → w'.heap[k]? = some o) (hb : ¬ M b) (hM : ∀ k, M' k → M k ∨ w.heap.size ≤ k) : Bld B b M' l w' := by
  obtain ⟨hB, p, v, hp, hh, hr, hn, hm⟩ := h
  refine ⟨hB, p, v, hp, hk _ _ hh rfl hb, ⟨hr.1, ?_⟩, hn, fun k hk1 hk2 => ?_⟩
  · rcases hr.2 with hr | ⟨g, cap, cur, hv, h1, h2, h3⟩
    · exact .inl hr
    · exact .inr ⟨g, cap, cur, hv, h1, hk _ _ h2 rfl (hm g (by rw [hv]; rfl)), h3⟩
  · rcases hM k hk2 with h | h
    · exact hm k hk1 h
    · rcases hr.2 with ⟨hv, _⟩ | ⟨g, cap, cur, hv, h1, h2, h3⟩
      · rw [hv] at hk1; cases hk1
      · rw [hv] at hk1; cases hk1
        have h4 := (Array.getElem?_eq_some_iff.1 h2).1
        exact absurd h4 (Nat.not_lt.2 h)

theorem blays240 : Lays.n240 Tryz.prog bren := { blays166 with }
theorem copyCheck_calls (B b : Nat) (p v : Value) (w : World) (hB : B ≤ b) (hp : p = .pointer none ∨ p = .pointer (some ⟨b, 0, none⟩)) (hh : w.heap[b]? = some (.cells #[p, v] 297 (0, 0))) :
    Calls Tryz.prog 301 #[.pointer (some ⟨b, 0, none⟩)] w fun e w' => e = .returned (.tuple #[]) ∧ w'.heap[b]? = some (.cells #[.pointer (some ⟨b, 0, none⟩), v] 297 (0, 0)) ∧ (∀ k, k ≠ b → w'.heap[k]? = w.heap[k]?) ∧ w'.heap.size = w.heap.size ∧ Below B w w' := by
  rcases hp with rfl | rfl
  · refine (Any.Builder_copyCheck_fresh blays240 bx72 b w (by simpa using cellsOf hh 0) (by simp [World.shape?, hh]; rfl) (by simp [World.frozen?, hh])).mono ?_
    rintro e w' ⟨rfl, rfl⟩
    exact ⟨rfl, heap_setCell_same hh, fun k hk => heap_setCell_ne hk, by simp, (Below.refl B w).setCell (p := ⟨b, 0, none⟩) hB _⟩
  · refine (Any.Builder_copyCheck_used blays240 bx72 b w (by simpa using cellsOf hh 0)).mono ?_
    rintro e w' ⟨rfl, rfl⟩
    exact ⟨rfl, hh, fun _ _ => rfl, rfl, Below.refl _ _⟩

/-- (*strings.Builder).WriteString -/
theorem writeString_calls (B b : Nat) (M : Nat → Prop) (l s : List UInt8) (w : World) (h : Bld B b M l w) (hM : ∀ k, M k → k ≠ b ∧ k < w.heap.size) (hlen : l.length + s.length ≤ 140737488355328) (hBw : B ≤ w.heap.size) :
    Calls Tryz.prog 231 #[.pointer (some ⟨b, 0, none⟩), .string (bs s)] w fun e w' => e = .returned (.tuple #[.int .i64 s.length, .nilIface]) ∧ Bld B b M (l ++ s) w' ∧ Below B w w' ∧ Keep M w w' ∧ KeepsFrom 0 w w' := by
  obtain ⟨hB, p, v, hp, hh, hr, hn, hm⟩ := h
  have hhb := hide hh
  obtain ⟨i0, hi, hz0, hz1, hz2⟩ := info_parts bextra.infoByte
  have Hr := hide (And.intro hr (And.intro hm (And.intro hM hn)))
  have HI := hide (And.intro hi (And.intro hz0 (And.intro hz1 hz2)))
  clear hr hm hM hi hz0 hz1 hz2 hn
  go_enter Tryz.func231, Tryz.ntmps231
  go_wp2_with (go_at_call 301; refine (copyCheck_calls B b p v w hB hp hh).mono ?_)
  rintro e w1 ⟨rfl, h1, ho1, hz1, hb1⟩
  have c0 : w1.cell? ⟨b, 0, none⟩ = some (.pointer (some ⟨b, 0, none⟩)) := by simpa using cellsOf h1 0
  have c1 : w1.cell? ⟨b, 1, none⟩ = some v := by simpa using cellsOf h1 1
  have hrow1 : w1.ownsRow B 5 1 v l.length (Lib.byteCells l) := by
    refine ⟨Hr.out.1.1, ?_⟩
    rcases Hr.out.1.2 with hr | ⟨g, cap, cur, hv, q1, q2, q3⟩
    · exact .inl hr
    · exact .inr ⟨g, cap, cur, hv, q1, (ho1 g (fun e => Hr.out.2.2.2 (by rw [hv, e]; rfl))).trans q2, q3⟩
  have hlen1 : l.length + (bs s).size ≤ 140737488355328 := by simpa [bs, ByteArray.size] using hlen
  have hap := fun ty => run_append_str Tryz.prog w1 B 107 9 ty 5 i0 Tryz.underlying107 Tryz.underlying9 HI.out.1 HI.out.2.1 HI.out.2.2.1 HI.out.2.2.2 v l.length _ hrow1 (bs s) (by simp only [maxLen]; omega) hlen1 (by omega)
  have Hap := hide hap
  have Hz := hide (And.intro hz1 (And.intro ho1 (And.intro hb1 hBw)))
  clear hap hrow1 hz1 ho1 hb1 hBw hh hp
  have hbl : b < w1.heap.size := (Array.getElem?_eq_some_iff.1 h1).1
  go_wp2_with (at_builtin; refine wpList_append_str rfl _ _ 107 9 rfl v (bs s) rfl rfl _ (Hap.out _) ?_)
  intro v' w2 hown' hgrow hnew
  have hb2 : w2.heap[b]? = some (.cells #[.pointer (some ⟨b, 0, none⟩), v] 297 (0, 0)) := (hgrow.block b hbl (fun e => Hr.out.2.2.2 e.symm)).trans h1
  have d1 : w2.cell? ⟨b, 1, none⟩ = some v := by simpa using cellsOf hb2 1
  have f1 : w2.frozen? ⟨b, 1, none⟩ = false := by simp [World.frozen?, hb2]
  obtain ⟨ao, n', cap, rfl⟩ : ∃ ao n' cap, v' = .slice ao n' cap := by
    rcases hown'.2 with ⟨hv, _⟩ | ⟨g, cap, cur, hv, _⟩
    · exact ⟨_, _, _, hv⟩
    · exact ⟨_, _, _, hv⟩
  have H2 := hide (And.intro hb2 (And.intro hown' (And.intro hgrow hnew)))
  clear hb2 hown' hgrow hnew c0 c1 h1
  go_wp2
  go_ret2
  obtain ⟨hb2, hown', hgrow, hnew⟩ := H2.out
  obtain ⟨z1, o1, b1, hBw⟩ := Hz.out
  obtain ⟨hr, hm, hM, hn⟩ := Hr.out
  have hvb : ∀ k, v.ownBlock = some k → k < w.heap.size ∧ B ≤ k ∧ ∃ o, w.heap[k]? = some o ∧ o.isCells = true := fun k hk => by
    rcases hr.2 with ⟨hv, _⟩ | ⟨g, cap, cur, hv, q1, q2, q3⟩
    · rw [hv] at hk; cases hk
    · rw [hv] at hk; cases hk
      exact ⟨(Array.getElem?_eq_some_iff.1 q2).1, q1, _, q2, rfl⟩
  have hnb : ∀ k, (Value.slice ao n' cap).ownBlock = some k → k ≠ b ∧ ¬ M k := fun k hk => by
    rcases hnew k hk with h | h
    · exact ⟨fun e => hn (by rw [h, e]), hm k h⟩
    · exact ⟨by omega, fun hMk => by have := (hM k hMk).2; omega⟩
  have hsz : (bs s).size = s.length := by simp [bs, ByteArray.size]
  have hbc : Lib.byteCells l ++ Lib.strCells (bs s) = Lib.byteCells (l ++ s) := by simp [Lib.byteCells, Lib.strCells, bs]
  have hoth : ∀ k, k < w.heap.size → k ≠ b → v.ownBlock ≠ some k → (w2.setCell ⟨b, 1, none⟩ (.slice ao n' cap)).heap[k]? = w.heap[k]? := fun k h1 h2 h3 =>
    (heap_setCell_ne h2).trans ((hgrow.block k (by omega) (fun e => h3 e.symm)).trans (o1 k h2))
  refine ⟨by rw [hsz]; rfl, ⟨hB, _, _, .inr rfl, heap_setCell_same hb2, ?_, fun e => (hnb b e).1 rfl, fun k hk => (hnb k hk).2⟩, ?_, ⟨by have := hgrow.size; simp; omega, fun k hk => hoth k (hM k hk).2 (hM k hk).1 (fun e => hm k e hk)⟩, ⟨by have := hgrow.size; simp; omega, fun k o _ hk ho => (hoth k (Array.getElem?_eq_some_iff.1 hk).1 ?_ ?_).trans hk⟩⟩
  · rw [hsz, hbc] at hown'
    rw [List.length_append]
    refine ⟨hown'.1, ?_⟩
    rcases hown'.2 with h | ⟨g, c, cur, hv, q1, q2, q3⟩
    · exact .inl h
    · exact .inr ⟨g, c, cur, hv, q1, (heap_setCell_ne (hnb g (by rw [hv]; rfl)).1).trans q2, q3⟩
  · exact (b1.grown hgrow (by omega) (fun k hk => (hvb k hk).2.1)).setCell (p := ⟨b, 1, none⟩) hB _
  · rintro rfl
    rw [hhb.out] at hk; cases hk
    cases ho
  · intro e
    obtain ⟨_, _, o', h1, h2⟩ := hvb k e
    rw [hk] at h1; cases h1
    rw [ho] at h2; cases h2
/-- (*strings.Builder).String -/
theorem builderString_calls (B b : Nat) (l : List UInt8) (w : World) (h : BldF B b (Lib.byteCells l) w) (hBw : B ≤ w.heap.size) :
    Calls Tryz.prog 232 #[.pointer (some ⟨b, 0, none⟩)] w fun e w' => e = .returned (.string (bs l)) ∧ (BldF B b (Lib.byteCells l) w' ∧ Below B w w' ∧ Lib.OthersKept 5 (some b) w w') :=
  Any.Builder_String_any_k blays169 bextra B b l w h hBw
end Go.Proofs.YtllfaffbaijgfaaGreatDoor

namespace Go.Proofs.YtllfaffbaijgfaaGreatDoor
open Go Go.RowKit Go.Shelf

set_option maxRecDepth 100000 in
theorem headEitherS_nil (S : Nat → Addr) (s : List UInt8) (w : World) (h : HeadAt S w) : Calls Tryz.prog 299 #[.agg #[.string (bs s), .nilIface]] w (Rt w (.tuple #[.string (bs s), .int .i64 0])) := by
  have e1 := (h.errs.1 21 (by simp [headErrs])).1
  have e2 := (h.errs.1 22 (by simp [headErrs])).1
  have e3 := (h.errs.1 23 (by simp [headErrs])).1
  have e4 := (h.errs.1 24 (by simp [headErrs])).1
  simp only [errV] at e1 e2 e3 e4
  clear h
  obtain ⟨w0, hw0⟩ : ∃ w0, w0 = w.alloc (.cells #[.string (bs s), .nilIface] 407) := ⟨_, rfl⟩
  have hB0 : Below w.heap.size w w0 := by rw [hw0]; ((repeat' (first | exact Below.refl _ _ | assumption | (refine Below.drew ?_) | (refine Below.alloc ?_ ?_ _) | (refine Below.setCell ?_ ?_ _) | (refine Below.step (W := ?hW) ?hq ?_ ?_; case hq => assumption))) <;> (first | (simp; done) | (simp; omega) | (simp at *; omega)))
  have hx : w0.heap[w.heap.size]? = some (.cells #[.string (bs s), .nilIface] 407 (0, 0)) := by rw [hw0]; exact World.alloc_heap_new w _
  replace e1 := (hB0.cell (cell_lt e1)).trans e1
  replace e2 := (hB0.cell (cell_lt e2)).trans e2
  replace e3 := (hB0.cell (cell_lt e3)).trans e3
  replace e4 := (hB0.cell (cell_lt e4)).trans e4
  have k0 := cellsOf hx 0
  have k1 := cellsOf hx 1
  simp only [List.getElem?_toArray, List.getElem?_cons_succ, List.getElem?_cons_zero] at k0 k1
  have hn := fun b W => is_nil b W
  replace hn := hide hn
  go_enter Tryz.func299, Tryz.ntmps299
  go_upto_region 2 with fail
  rw [← hw0]
  clear hw0 hx
  go_wp2_with (go_at_call 120; refine (hn.out _ _).mono ?_; rintro e_ w_ ⟨rfl, rfl⟩)
  go_ret2
  exact ⟨rfl, hB0⟩
end Go.Proofs.YtllfaffbaijgfaaGreatDoor

namespace Go.Proofs.YtllfaffbaijgfaaGreatDoor
open Go Go.RowKit Go.Shelf
attribute [local go_sem] Oper.semAt_some

def headSmall (m n : Int) : List UInt8 := [UInt8.ofNat (m * 32 + n).toNat]

theorem headByte (m n : Int) (hm : isMajor m = true) (h0 : 0 ≤ n) (h24 : n < 24) : strOfNums [bits BinOp.or IntKind.u8 (wrap64 (m * 32) % 256) n] = bs (headSmall m n) := by
  have hq : bits BinOp.or IntKind.u8 (wrap64 (m * 32) % 256) n = m * 32 + n := by
    obtain ⟨k, rfl⟩ := Int.eq_ofNat_of_zero_le h0
    have hk : k < 24 := by omega
    have h1 : m = 0 ∨ m = 2 ∨ m = 3 ∨ m = 4 := by
      simp only [isMajor, List.any_cons, List.any_nil, Bool.or_false, Bool.or_eq_true, decide_eq_true_eq] at hm
      omega
    have hf0 : ∀ k : Fin 24, bits BinOp.or IntKind.u8 (wrap64 (0 * 32) % 256) ((k.1 : Nat) : Int) = 0 * 32 + ((k.1 : Nat) : Int) := of_decide_eq_true (by kernel_rfl)
    have hf2 : ∀ k : Fin 24, bits BinOp.or IntKind.u8 (wrap64 (2 * 32) % 256) ((k.1 : Nat) : Int) = 2 * 32 + ((k.1 : Nat) : Int) := of_decide_eq_true (by kernel_rfl)
    have hf3 : ∀ k : Fin 24, bits BinOp.or IntKind.u8 (wrap64 (3 * 32) % 256) ((k.1 : Nat) : Int) = 3 * 32 + ((k.1 : Nat) : Int) := of_decide_eq_true (by kernel_rfl)
    have hf4 : ∀ k : Fin 24, bits BinOp.or IntKind.u8 (wrap64 (4 * 32) % 256) ((k.1 : Nat) : Int) = 4 * 32 + ((k.1 : Nat) : Int) := of_decide_eq_true (by kernel_rfl)
    rcases h1 with rfl | rfl | rfl | rfl
    · exact hf0 ⟨k, hk⟩
    · exact hf2 ⟨k, hk⟩
    · exact hf3 ⟨k, hk⟩
    · exact hf4 ⟨k, hk⟩
  rw [hq]
  rfl

set_option maxRecDepth 100000 in
set_option maxHeartbeats 4000000 in
theorem headEncoded_small (S : Nat → Addr) (m n : Int) (w : World) (h : HeadAt S w) (hm : isMajor m = true) (h0 : 0 ≤ n) (h24 : n < 24) :
    Calls Tryz.prog 300 #[.int .i64 m, .int .i64 n] w (Rt w (.agg #[.string (bs (headSmall m n)), .nilIface])) := by
  have H := hide h
  have hM := fun W => isMajor_calls m W
  rw [hm] at hM
  replace hM := hide hM
  have hR := fun W => numR_calls n W
  rw [show numR n = true by simp [numR]; omega] at hR
  replace hR := hide hR
  have Hm := hide hm
  clear h hm
  refine (callsIn_wide (n := 0)).1 ?_
  refine callsIn_of_wp_marks Tryz.func300 rfl trivial ?_ rfl
  simp only [Tryz.ntmps300, List.size_toArray, List.length_cons, List.length_nil, Nat.reduceAdd, Nat.reduceSub, Array.replicate_succ, Array.replicate_zero, List.push_toArray, List.append_toArray, List.nil_append, List.cons_append]
  gi_wp2_with fail
  refine ⟨trivial, rfl, ?_⟩
  refine (callsIn_wide.2 (hM.out _)).mono ?_
  rintro e_ w_ ⟨rfl, hb_⟩
  have hz_ := hb_.size
  simp at hz_
  have k0 : w_.cell? ⟨w.heap.size, 0, none⟩ = some (.int .i64 n) := (hb_.cell (p := ⟨w.heap.size, 0, none⟩) (by simp; omega)).trans (by simp)
  have hr4 : w_.heap[w.heap.size + 1]? = some (.cells #[.string { data := #[] }, .nilIface] 407 (0, 0)) := heapNew (u := w.alloc (.cells #[.int .i64 n] 3)) (by exact hb_.mono (by simp)) (by simp)
  have hB_ : Below w.heap.size w w_ := (by ((repeat' (first | exact Below.refl _ _ | assumption | (refine Below.drew ?_) | (refine Below.alloc ?_ ?_ _) | (refine Below.setCell ?_ ?_ _) | (refine Below.step (W := ?hW) ?hq ?_ ?_; case hq => assumption))) <;> (first | (simp; done) | (simp; omega) | (simp at *; omega))) : Below w.heap.size w ((w.alloc (.cells #[.int .i64 n] 3)).alloc (.cells #[.string { data := #[] }, .nilIface] 407))).trans (hb_.mono (by simp; omega))
  clear hb_
  gi_wp2_with fail
  refine ⟨trivial, rfl, ?_⟩
  refine (callsIn_wide.2 (hR.out _)).mono ?_
  rintro e2_ w2_ ⟨rfl, rfl⟩
  obtain ⟨c, hc⟩ : ∃ c, c = wrap64 (m * 32) % 256 := ⟨_, rfl⟩
  obtain ⟨w1, hw1⟩ : ∃ w1, w1 = w_.alloc (.cells #[.int .u8 c] 5) := ⟨_, rfl⟩
  have hB1 : Below w_.heap.size w_ w1 := by rw [hw1]; exact (Below.refl _ _).alloc (Nat.le_refl _) _
  have hr5 : w1.heap[w_.heap.size]? = some (.cells #[.int .u8 c] 5 (0, 0)) := by rw [hw1]; exact World.alloc_heap_new _ _
  have k01 := (hB1.cell (cell_lt k0)).trans k0
  rw [hw1] at k01
  rw [hc] at k01
  gi_wp2_with fail
  refine ⟨trivial, rfl, ?_⟩
  rw [← hc, ← hw1]
  rw [← hc, ← hw1] at k01
  refine (callsIn_wide.2 (headFits_calls n _)).mono ?_
  rintro e3_ w2 ⟨rfl, hw2⟩
  have hB2 : Below w1.heap.size w1 w2 := by rw [hw2]; exact (Below.refl _ _).alloc (Nat.le_refl _) _
  have hf2 : w2.heap[w1.heap.size]? = some (.cells #[.int .i64 n] 3 (0, 0)) := by rw [hw2]; exact World.alloc_heap_new _ _
  clear hw1 hw2 k0
  have k0 := (hB2.cell (cell_lt k01)).trans k01
  gi_wp2_with fail
  have hB12 := hB1.trans (hB2.mono hB1.size)
  have hr4' := heapKept hr4 hB12
  have hr5' := heapKept hr5 hB2
  have hBw : Below w.heap.size w w2 := hB_.trans (hB12.mono hB_.size)
  have hrooms : w2.heap[26]? = some (.cells roomsV 506 (0, 0)) := (H.out.mono hBw).rooms
  have hlb : ∀ k, (k = w1.heap.size ∨ k = 26) → k < w2.heap.size := fun k hk => by
    rcases hk with rfl | rfl
    · exact (Array.getElem?_eq_some_iff.1 hf2).1
    · exact (Array.getElem?_eq_some_iff.1 hrooms).1
  have Hit := hide (fitsIter n w1.heap.size (fun k => k = w1.heap.size ∨ k = 26) w2 (by simpa using cellsOf hf2 0) (.inl rfl) hrooms (.inr rfl) hlb)
  have hz4 := (Array.getElem?_eq_some_iff.1 hr4').1
  have hz5 := (Array.getElem?_eq_some_iff.1 hr5').1
  have hz1 := hB_.size
  have Hfl : Hid (fitsL n roomsL = (0, 24, 0) :: fitsL n (roomsL.drop 1)) := hide (by simp only [fitsL, roomsL]; rw [List.filter_cons_of_pos (by simpa using h24)]; rfl)
  have hz2 := hB2.size
  have hz12 := hB1.size
  clear hr4 hr5 hB1 hB2 hB12 hrooms k01 hf2
  refine wp_range (gf := 367) (lb := #[.pointer (some ⟨w1.heap.size, 0, none⟩)]) rfl (enters_of Tryz.func367 (by kernel_rfl) rfl) Hit.out (fun _ => rfl) hlb (fun _ h => h.elim)
    (fun i W => i = 0 ∧ W.cell? ⟨w.heap.size, 0, none⟩ = some (.int .i64 n) ∧ W.heap[w.heap.size + 1]? = some (.cells #[.string { data := #[] }, .nilIface] 407 (0, 0)) ∧ W.heap[w_.heap.size]? = some (.cells #[.int .u8 c] 5 (0, 0)) ∧ Below w.heap.size w W)
    (fun cc W => cc = .ret ∧ W.heap[w.heap.size + 1]? = some (.cells #[.string (bs (headSmall m n)), .nilIface] 407 (0, 0)) ∧ Below w.heap.size w W)
    (fun i A B h hs => ⟨h.1, hs.cell h.2.1 id, hs.heap h.2.2.1, hs.heap h.2.2.2.1, hs.below h.2.2.2.2 (by omega) h.2.2.2.2.size (fun _ h => h.elim)⟩)
    (fun cc A B h hs => ⟨h.1, hs.heap h.2.1, hs.below h.2.2 (by omega) h.2.2.size (fun _ h => h.elim)⟩)
    ⟨rfl, k0, hr4', hr5', hBw⟩ ?round ?done ?stop
  case round =>
    rintro l i y W hl hy ⟨rfl, q0, q4, q5, hBW⟩ hrec
    rw [Hfl.out] at hy
    obtain rfl : (0, 24, 0) = y := by simpa using hy
    have hW : w2.heap.size < W.heap.size := by obtain ⟨r, hr⟩ := hrec; have := (Array.getElem?_eq_some_iff.1 hr).1; omega
    have hBn : ∀ o, Below W.heap.size W (W.alloc o) := fun o => (Below.refl _ W).alloc (Nat.le_refl _) o
    clear Hit hrec hy Hfl
    simp only [roomEnc]
    gi_wp2_with (apply wpListIn_store_new (ty := 461) (n := 3); (case hgd => exact rfl); (case ho => exact rfl); (case hd => exact rfl); (case hx => exact rfl); (case hw => exact rfl); (case hg => first | exact rfl | (simp; done)); (case hy => exact rfl); (case hi => kernel_rfl); (case hn0 => exact rfl); (case hn => exact rfl); (case h1 => first | exact rfl | assumption | (simp [Value.oneCell', *]; done) | (simp [*]; done)))
    refine ⟨(KeepsOthers.alloc _ _).from _, Keep.of_below (hBn _) (fun k hk => by have := hlb k hk; omega), fun W₂ hs hk hkr hsz hc hf => ?_⟩
    have b0 : W₂.cell? ⟨W.heap.size, 0, none⟩ = some (.int .i64 0) := (hc _).trans (by simp)
    have c0 := hs.cell (((hBn _).cell (cell_lt q0)).trans q0) id
    have c4 := hs.heap (heapKept q4 (hBn _))
    have c5 := hs.heap (heapKept q5 (hBn _))
    have e5 := cellsOf c5 0
    simp only [List.getElem?_toArray, List.getElem?_cons_zero] at e5
    have hBW2 : Below w.heap.size w W₂ := hs.below (hBW.alloc hBW.size _) (by omega) (Nat.le_trans hBW.size (hBn _).size) (fun _ h => h.elim)
    simp at hsz
    clear hs hk hkr hc hf q0 q4 q5 hBn hBW
    have hc5 : (W₂.alloc (.cells #[.int .u8 (bits BinOp.or IntKind.u8 (wrap64 (m * 32) % 256) n)] 5)).cell? ⟨W₂.heap.size, 0, none⟩ = some (.int .u8 (bits BinOp.or IntKind.u8 (wrap64 (m * 32) % 256) n)) := by simp
    have hconv := run_convert_bytes_arg (P := Tryz.prog) (W₂.alloc (.cells #[.int .u8 (bits BinOp.or IntKind.u8 (wrap64 (m * 32) % 256) n)] 5)) 107 5 Tryz.underlying107 Tryz.underlying5 W₂.heap.size 0 1 1 [bits BinOp.or IntKind.u8 (wrap64 (m * 32) % 256) n] rfl
      (fun i hi => by
        obtain rfl : i = 0 := by omega
        simp) 9 Tryz.underlying9
    rw [headByte m n Hm.out h0 h24, hsz] at hconv
    have c4' := heap_alloc_old c4 (.cells #[.int .u8 (bits BinOp.or IntKind.u8 (wrap64 (m * 32) % 256) n)] 5)
    clear hc5
    gi_wp2_with (apply wpListIn_store_at (ty := 407) (n := 2); (case hgd => exact rfl); (case ho => exact rfl); (case hd => exact rfl); (case hx => exact rfl); (case hheap => exact c4'); (case hy => exact rfl); (case hi => kernel_rfl); (case hn0 => exact rfl); (case hn => exact rfl); (case h1 => first | exact rfl | assumption | (simp [Value.oneCell', *]; done) | (simp [*]; done)))
    refine ⟨⟨?_, fun k o h1 hk h2 => ?_⟩, rfl, setRow_heap _ _ _ _ _ _ c4', below_setRow (hBW2.alloc hBW2.size _) (by omega) _⟩
    · rw [setRow_size]; simp
    · exact (heap_setRow_ne (by omega)).trans (heap_alloc_old hk _)
  case done =>
    rintro D W hD ⟨h0, _⟩ hK
    rw [Hfl.out] at h0
    simp at h0
  case stop =>
    rintro D cc W hD ⟨rfl, hr, hBW⟩ hK
    clear Hit
    gi_wp2
    refine ⟨by simp, .inl ⟨_, _, rfl, run_takeDeferred hK, ?_⟩⟩
    refine ⟨_, results_cell1 rfl rfl (load_row (n := 2) (hheap := (World.putObj_heap_other (by omega)).trans hr) (hu := Tryz.underlying407) (hd := rfl) (hi := by kernel_rfl) (hc := rfl)), rfl, ?_⟩
    exact below_putObj hBW (by omega) _

theorem headEncode_small (S : Nat → Addr) (m n : Int) (w : World) (h : HeadAt S w) (hm : isMajor m = true) (h0 : 0 ≤ n) (h24 : n < 24) :
    Calls Tryz.prog 230 #[.int .i64 m, .int .i64 n] w (Rt w (.tuple #[.string (bs (headSmall m n)), .int .i64 0])) := by
  have H1 := hide (headEncoded_small S m n w h hm h0 h24)
  have H2 := hide (fun W hB => headEitherS_nil S (headSmall m n) W (h.mono (w' := W) hB))
  clear h
  go_enter Tryz.func230, Tryz.ntmps230
  go_wp2_with fail
  refine (show Calls _ _ _ _ _ from H1.out).mono ?_
  rintro e_ w1 ⟨rfl, hb1⟩
  go_wp2_with fail
  refine (show Calls _ _ _ _ _ from H2.out w1 hb1).mono ?_
  rintro e_ w2 ⟨rfl, hb2⟩
  have hB := hb1.trans (hb2.mono hb1.size)
  clear hb1 hb2
  go_wp2_with fail
  go_ret2
  exact ⟨rfl, hB⟩
end Go.Proofs.YtllfaffbaijgfaaGreatDoor
