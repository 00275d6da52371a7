/- six.isBlock: whether a block may be. The blocks of a bundle of version 6, gone through. A whole struct read out of the block that holds it, in one step. No program text. six.blocks, six.Load. -/
import Derived.Test.YtllfaffbaijgfaaGreatDoorJ04
import Derived.Deep.MidRow
import Derived.BigQuiet
set_option linter.unusedVariables false
set_option linter.unusedSimpArgs false
namespace Go.Proofs.YtllfaffbaijgfaaGreatDoor
open Go Go.RowKit Go.Shelf

/-- a block's six cells -/
structure BlockAt (w : World) (b o : Nat) (x : Block) (rv : Value) : Prop where
  c0 : w.cell? ⟨b, o, none⟩ = some (.int .i64 x.type)
  c1 : w.cell? ⟨b, o + 1, none⟩ = some (.int .i64 x.num)
  c2 : w.cell? ⟨b, o + 2, none⟩ = some (.int .i64 x.flags)
  c3 : w.cell? ⟨b, o + 3, none⟩ = some (.int .i64 x.sum)
  c4 : w.cell? ⟨b, o + 4, none⟩ = some rv
  c5 : w.cell? ⟨b, o + 5, none⟩ = some (.string (bs x.data))
theorem BlockAt.lt {w : World} {b o : Nat} {x : Block} {rv : Value} (h : BlockAt w b o x rv) : b < w.heap.size := cell_lt h.c0
theorem BlockAt.mono {n : Nat} {w w' : World} {b o : Nat} {x : Block} {rv : Value} (h : BlockAt w b o x rv) (hb : Below n w w') (hn : b < n) : BlockAt w' b o x rv :=
  ⟨(hb.cell (p := ⟨b, _, none⟩) hn).trans h.c0, (hb.cell (p := ⟨b, _, none⟩) hn).trans h.c1, (hb.cell (p := ⟨b, _, none⟩) hn).trans h.c2, (hb.cell (p := ⟨b, _, none⟩) hn).trans h.c3, (hb.cell (p := ⟨b, _, none⟩) hn).trans h.c4, (hb.cell (p := ⟨b, _, none⟩) hn).trans h.c5⟩
/-- small enough -/
def blockFit (x : Block) : Prop := x.refs.length ≤ 9000000000000000000 ∧ x.data.length ≤ 9000000000000000000 ∧ ∀ e ∈ x.refs, eidFit e

def block61 (x : Block) (last : Bool) : Bool := isIn x.type 1 255 && (decide (x.type = 1) == last)
def block62 (x : Block) (last : Bool) : Bool := decide (0 ≤ x.flags) && (bits .andNot .i64 x.flags 127 == 0) && ((bits .and .i64 x.flags 8 != 0) == last)
def block63 (x : Block) (last : Bool) : Bool := ((bits .and .i64 x.flags 64 != 0) == decide (0 < x.refs.length)) && (!last || decide (x.refs.length = 0))
def block64 (x : Block) : Bool := decide (x.refs.length ≤ 3) && x.refs.all eidR
def block65 (x : Block) : Bool := decide (x.num = 0) && decide (x.sum = 0) && decide (x.data.length ≤ 600)
def block6 (x : Block) (last : Bool) : Bool := block61 x last && block62 x last && block63 x last && block64 x && block65 x

theorem bs_len (l : List UInt8) : (bs l).data.size = l.length := by simp [bs]
theorem bs_size' (l : List UInt8) : (bs l).size = l.length := bs_size l

set_option maxRecDepth 100000 in
theorem block61_calls (x : Block) (last : Bool) (B C : Nat) (w : World) (h0 : w.cell? ⟨B, 0, none⟩ = some (.int .i64 x.type)) (h1 : w.cell? ⟨C, 0, none⟩ = some (.bool last)) :
    Calls Tryz.prog 139 #[.pointer (some ⟨B, 0, none⟩), .pointer (some ⟨C, 0, none⟩)] w (Pu w (.bool (block61 x last))) := by
  obtain ⟨q, hq⟩ : ∃ q, q = isIn x.type 1 255 := ⟨_, rfl⟩
  have H := isIn_calls x.type 1 255 w
  rw [← hq] at H
  have H := hide H
  have Hq := hide hq
  clear hq
  go_enter Tryz.func139, Tryz.ntmps139
  go_wp2_with fail
  refine (show Calls _ _ _ _ _ from H.out).mono ?_
  rintro e_ w_ ⟨rfl, rfl⟩
  cases q <;> cases last
  all_goals go_wp2
  all_goals (go_ret; refine ⟨?_, rfl⟩)
  all_goals simp [block61, ← Hq.out]
  all_goals first | done | rfl

theorem block62_calls (x : Block) (last : Bool) (B C : Nat) (w : World) (h0 : w.cell? ⟨B, 2, none⟩ = some (.int .i64 x.flags)) (h1 : w.cell? ⟨C, 0, none⟩ = some (.bool last)) :
    Calls Tryz.prog 140 #[.pointer (some ⟨B, 0, none⟩), .pointer (some ⟨C, 0, none⟩)] w (Pu w (.bool (block62 x last))) := by
  go_enter Tryz.func140, Tryz.ntmps140
  cases last
  all_goals go_wp2
  all_goals (go_ret; refine ⟨?_, rfl⟩)
  all_goals simp [block62, *]
  all_goals omega

theorem block63_calls (x : Block) (last : Bool) (B C : Nat) (rv : Value) (w : World) (h0 : w.cell? ⟨B, 2, none⟩ = some (.int .i64 x.flags)) (h2 : w.cell? ⟨B, 4, none⟩ = some rv) (hv : EidsV w x.refs rv) (h1 : w.cell? ⟨C, 0, none⟩ = some (.bool last)) (hlen : x.refs.length ≤ 9000000000000000000) :
    Calls Tryz.prog 141 #[.pointer (some ⟨B, 0, none⟩), .pointer (some ⟨C, 0, none⟩)] w (Pu w (.bool (block63 x last))) := by
  obtain ⟨a, cap, rfl, _⟩ := hv
  go_enter Tryz.func141, Tryz.ntmps141
  cases last
  all_goals go_wp2
  all_goals (go_ret; refine ⟨?_, rfl⟩)
  all_goals simp [block63, *]
  cases x.refs <;> simp
  omega

set_option maxRecDepth 100000 in
theorem block64_calls (x : Block) (B : Nat) (rv : Value) (w : World) (h2 : w.cell? ⟨B, 4, none⟩ = some rv) (hv : EidsV w x.refs rv) (hfit : blockFit x) :
    Calls Tryz.prog 142 #[.pointer (some ⟨B, 0, none⟩)] w (Rt w (.bool (block64 x))) := by
  have H := hide (sixAreNames_calls x.refs rv w hfit.1 hfit.2.2 hv)
  have hlen := hfit.1
  obtain ⟨a, cap, rfl, _⟩ := hv
  go_enter Tryz.func142, Tryz.ntmps142
  go_wp2_with fail
  · refine (show Calls _ _ _ _ _ from H.out).mono ?_
    rintro e1 w1 ⟨rfl, hb⟩
    go_wp2_with fail
    go_ret
    refine ⟨?_, hb⟩
    have : x.refs.length ≤ 3 := by omega
    simp [block64, this]
  · go_ret
    refine ⟨?_, Below.refl _ _⟩
    have : ¬ x.refs.length ≤ 3 := by omega
    simp [block64, this]

theorem block65_calls (x : Block) (B : Nat) (w : World) (h0 : w.cell? ⟨B, 1, none⟩ = some (.int .i64 x.num)) (h1 : w.cell? ⟨B, 3, none⟩ = some (.int .i64 x.sum)) (h2 : w.cell? ⟨B, 5, none⟩ = some (.string (bs x.data))) :
    Calls Tryz.prog 143 #[.pointer (some ⟨B, 0, none⟩)] w (Pu w (.bool (block65 x))) := by
  go_enter Tryz.func143, Tryz.ntmps143
  go_wp2
  all_goals (go_ret; refine ⟨?_, rfl⟩)
  all_goals simp [block65, bs_size, *]
  omega

set_option maxRecDepth 100000 in
theorem sixIsBlock_calls (x : Block) (last : Bool) (rv : Value) (w : World) (hv : EidsV w x.refs rv) (hfit : blockFit x) :
    Calls Tryz.prog 76 #[.agg #[.int .i64 x.type, .int .i64 x.num, .int .i64 x.flags, .int .i64 x.sum, rv, .string (bs x.data)], .bool last] w (Rt w (.bool (block6 x last))) := by
  have Hfit := hide hfit
  have Hv := hide hv
  clear hfit hv
  go_enter Tryz.func76, Tryz.ntmps76
  go_wp2_with fail
  obtain ⟨W3, hW3⟩ : ∃ W3, ((w.alloc (.cells #[.int .i64 x.type, .int .i64 x.num, .int .i64 x.flags, .int .i64 x.sum, rv, .string (bs x.data)] 57)).alloc (.cells #[.bool last] 4)).alloc
    (.cells #[.func (.func 139) #[] #[.pointer (some ⟨w.heap.size, 0, none⟩), .pointer (some ⟨w.heap.size + 1, 0, none⟩)], .func (.func 140) #[] #[.pointer (some ⟨w.heap.size, 0, none⟩), .pointer (some ⟨w.heap.size + 1, 0, none⟩)],
      .func (.func 141) #[] #[.pointer (some ⟨w.heap.size, 0, none⟩), .pointer (some ⟨w.heap.size + 1, 0, none⟩)], .func (.func 142) #[] #[.pointer (some ⟨w.heap.size, 0, none⟩)], .func (.func 143) #[] #[.pointer (some ⟨w.heap.size, 0, none⟩)]] 22) = W3 := ⟨_, rfl⟩
  rw [hW3]
  have hB3 : Below w.heap.size w W3 := by rw [← hW3]; ((repeat' (first | exact Below.refl _ _ | assumption | (refine Below.drew ?_) | (refine Below.alloc ?_ ?_ _) | (refine Below.setCell ?_ ?_ _) | (refine Below.step (W := ?hW) ?hq ?_ ?_; case hq => assumption))) <;> (first | (simp; done) | (simp; omega) | (simp at *; omega)))
  have hz3 : W3.heap.size = w.heap.size + 3 := by rw [← hW3]; simp
  have hX : BlockAt W3 w.heap.size 0 x rv := by
    have q : ∀ i, W3.cell? ⟨w.heap.size, i, none⟩ = (#[.int .i64 x.type, .int .i64 x.num, .int .i64 x.flags, .int .i64 x.sum, rv, .string (bs x.data)] : Array Value)[i]? := fun i => cellOf (t := 57) (by rw [← hW3]; ((repeat' (first | exact Below.refl _ _ | assumption | (refine Below.drew ?_) | (refine Below.alloc ?_ ?_ _) | (refine Below.setCell ?_ ?_ _) | (refine Below.step (W := ?hW) ?hq ?_ ?_; case hq => assumption))) <;> (first | (simp; done) | (simp; omega) | (simp at *; omega)))) rfl
    exact ⟨q 0, q 1, q 2, q 3, q 4, q 5⟩
  have hL : W3.cell? ⟨w.heap.size + 1, 0, none⟩ = some (.bool last) := by rw [← hW3]; (simp [World.cell?_alloc_at, World.cell?_alloc_past]; done)
  have f0 : W3.cell? ⟨w.heap.size + 1 + 1, 0 + 0, none⟩ = some (.func (.func 139) #[] #[.pointer (some ⟨w.heap.size, 0, none⟩), .pointer (some ⟨w.heap.size + 1, 0, none⟩)]) := by rw [← hW3]; (simp [World.cell?_alloc_at, World.cell?_alloc_past]; done)
  have f1 : W3.cell? ⟨w.heap.size + 1 + 1, 0 + (0 + 1), none⟩ = some (.func (.func 140) #[] #[.pointer (some ⟨w.heap.size, 0, none⟩), .pointer (some ⟨w.heap.size + 1, 0, none⟩)]) := by rw [← hW3]; (simp [World.cell?_alloc_at, World.cell?_alloc_past]; done)
  have f2 : W3.cell? ⟨w.heap.size + 1 + 1, 0 + (0 + 1 + 1), none⟩ = some (.func (.func 141) #[] #[.pointer (some ⟨w.heap.size, 0, none⟩), .pointer (some ⟨w.heap.size + 1, 0, none⟩)]) := by rw [← hW3]; (simp [World.cell?_alloc_at, World.cell?_alloc_past]; done)
  have f3 : W3.cell? ⟨w.heap.size + 1 + 1, 0 + (0 + 1 + 1 + 1), none⟩ = some (.func (.func 142) #[] #[.pointer (some ⟨w.heap.size, 0, none⟩)]) := by rw [← hW3]; (simp [World.cell?_alloc_at, World.cell?_alloc_past]; done)
  have f4 : W3.cell? ⟨w.heap.size + 1 + 1, 0 + (0 + 1 + 1 + 1 + 1), none⟩ = some (.func (.func 143) #[] #[.pointer (some ⟨w.heap.size, 0, none⟩)]) := by rw [← hW3]; (simp [World.cell?_alloc_at, World.cell?_alloc_past]; done)
  clear hW3
  have hV3 := Hv.out.mono hB3
  have key : ∀ W, Below W3.heap.size W3 W → BlockAt W w.heap.size 0 x rv ∧ W.cell? ⟨w.heap.size + 1, 0, none⟩ = some (.bool last) ∧ EidsV W x.refs rv := fun W h =>
    ⟨hX.mono h (by omega), (h.cell (p := ⟨w.heap.size + 1, 0, none⟩) (show w.heap.size + 1 < W3.heap.size by omega)).trans hL, hV3.mono h⟩
  refine (six_areAll [(139, #[.pointer (some ⟨w.heap.size, 0, none⟩), .pointer (some ⟨w.heap.size + 1, 0, none⟩)], block61 x last), (140, #[.pointer (some ⟨w.heap.size, 0, none⟩), .pointer (some ⟨w.heap.size + 1, 0, none⟩)], block62 x last),
    (141, #[.pointer (some ⟨w.heap.size, 0, none⟩), .pointer (some ⟨w.heap.size + 1, 0, none⟩)], block63 x last), (142, #[.pointer (some ⟨w.heap.size, 0, none⟩)], block64 x), (143, #[.pointer (some ⟨w.heap.size, 0, none⟩)], block65 x)]
    (w.heap.size + 1 + 1) 0 5 5 W3 (by omega) rfl (by simp) ?h2).mono ?h3
  case h2 =>
    refine ⟨f0, enters_of Tryz.func139 (by kernel_rfl) rfl, fun W h => Pu.rt (block61_calls x last _ _ W (key W h).1.c0 (key W h).2.1), fun _ => ?_⟩
    refine ⟨f1, enters_of Tryz.func140 (by kernel_rfl) rfl, fun W h => Pu.rt (block62_calls x last _ _ W (key W h).1.c2 (key W h).2.1), fun _ => ?_⟩
    refine ⟨f2, enters_of Tryz.func141 (by kernel_rfl) rfl, fun W h => Pu.rt (block63_calls x last _ _ rv W (key W h).1.c2 (key W h).1.c4 (key W h).2.2 (key W h).2.1 Hfit.out.1), fun _ => ?_⟩
    refine ⟨f3, enters_of Tryz.func142 (by kernel_rfl) rfl, fun W h => block64_calls x _ rv W (key W h).1.c4 (key W h).2.2 Hfit.out, fun _ => ?_⟩
    exact ⟨f4, enters_of Tryz.func143 (by kernel_rfl) rfl, fun W h => Pu.rt (block65_calls x _ W (key W h).1.c1 (key W h).1.c3 (key W h).1.c5), fun _ => trivial⟩
  case h3 =>
    rintro e w1 ⟨rfl, hb⟩
    clear key
    go_wp2_with fail
    go_ret
    exact ⟨by simp [block6, Bool.and_assoc], hB3.trans (hb.mono (by omega))⟩
end Go.Proofs.YtllfaffbaijgfaaGreatDoor

namespace Go.Proofs.YtllfaffbaijgfaaGreatDoor
open Go Go.RowKit Go.Shelf
attribute [local go_sem] Oper.semAt_some

def BlocksAt (w : World) (l : List Block) (rv : Nat → Value) (b o : Nat) : Prop := b < w.heap.size ∧ ∀ i x, l[i]? = some x → BlockAt w b (o + i * 6) x (rv i)
theorem BlocksAt.mono {n : Nat} {w w' : World} {l : List Block} {rv : Nat → Value} {b o : Nat} (h : BlocksAt w l rv b o) (hb : Below n w w') (hn : b < n) : BlocksAt w' l rv b o := ⟨Nat.lt_of_lt_of_le h.1 hb.size, fun i e he => (h.2 i e he).mono hb hn⟩
/-- what the loop over a bundle's blocks hands on: whether it is the last one, the block, where its names lie -/
abbrev Blk := Bool × Block × Value
def blkItems (l : List Block) (rv : Nat → Value) : List Blk := l.mapIdx fun i x => (decide (i + 1 = l.length), x, rv i)
theorem blkItems_at {l : List Block} {rv : Nat → Value} {i : Nat} {y : Blk} (h : (blkItems l rv)[i]? = some y) : ∃ x, l[i]? = some x ∧ y = (decide (i + 1 = l.length), x, rv i) := by
  simp only [blkItems, List.getElem?_mapIdx, Option.map_eq_some_iff] at h
  obtain ⟨x, hx, rfl⟩ := h
  exact ⟨x, hx, rfl⟩
theorem blkItems_get {l : List Block} {rv : Nat → Value} {i : Nat} {x : Block} (h : l[i]? = some x) : (blkItems l rv)[i]? = some (decide (i + 1 = l.length), x, rv i) := by
  simp [blkItems, List.getElem?_mapIdx, h]
theorem blkItems_length (l : List Block) (rv : Nat → Value) : (blkItems l rv).length = l.length := by simp [blkItems]
def blkEnc (y : Blk) : Array Value := #[.bool y.1, .agg #[.int .i64 y.2.1.type, .int .i64 y.2.1.num, .int .i64 y.2.1.flags, .int .i64 y.2.1.sum, y.2.2, .string (bs y.2.1.data)]]

theorem wpIn_scope_wide {n : Nat} {P : Program} {c : Code} {Q : Exit → Act → World → Prop} {a : Act} {w : World} (h : c.wpIn Fence.wide n P (Exit.noGoto Q) a w) : (Code.scope c).wpIn Fence.wide n P Q a w := wpIn_wide.2 (wp_scope_straight (wpIn_wide.1 h))

set_option maxRecDepth 100000 in
theorem sixIter (l : List Block) (rv : Nat → Value) (a : Option Addr) (cap B : Nat) (R : Nat → Prop) (w : World) (hlen : l.length ≤ 9000000000000000000) (hB : w.cell? ⟨B, 26, none⟩ = some (.slice a l.length cap)) (hRB : R B)
    (hat : 0 < l.length → ∃ b o, a = some ⟨b, o, none⟩ ∧ R b ∧ BlocksAt w l rv b o) (hone : ∀ i x, l[i]? = some x → (rv i).oneCell' = true) (hRlt : ∀ k, R k → k < w.heap.size) :
    Iter Tryz.prog 113 #[.pointer (some ⟨B, 0, none⟩)] blkEnc (blkItems l rv) R (fun _ => False) w := by
  intro lp J Jx W hW hJ hJx hY h0
  have Hat := hide hat
  have HY := hide hY
  have Hone := hide hone
  clear hat hY hone
  obtain ⟨n, hn⟩ : ∃ n, n = l.length := ⟨_, rfl⟩
  rw [← hn] at hB hlen
  have Hn := hide hn
  clear hn
  have HB := hide (And.intro hB hRB)
  clear hB hRB
  have kb := (hW.cell (p := ⟨B, 26, none⟩) HB.out.2).trans HB.out.1
  refine callsIn_of_wp Tryz.func113 rfl trivial ?_ rfl
  simp only [Tryz.ntmps113, List.size_toArray, List.length_cons, List.length_nil, Nat.reduceAdd, Nat.reduceSub, Array.replicate_succ, Array.replicate_zero, List.push_toArray, List.append_toArray, List.nil_append, List.cons_append]
  refine wpIn_scope_wide ?_
  gi_wp2
  refine wpIn_label ?_
  gi_wp2
  gi_loopw [8] (fun k wr => ∃ i : Nat, i ≤ n ∧ k = .int .i64 i ∧ J i wr ∧ Keep R W wr) (fun k _ => n - (intOf k).toNat)
  case atStart => exact ⟨0, Nat.zero_le _, rfl, h0, Keep.refl _ _⟩
  case round =>
    obtain ⟨i, hi, rfl, hJi, hK⟩ := hrel
    by_cases hlt : i < n
    · obtain ⟨b, o, rfl, hRb, hat⟩ := Hat.out (by rw [← Hn.out]; omega)
      obtain ⟨x, hx⟩ : ∃ x, l[i]? = some x := ⟨_, List.getElem?_eq_getElem (by rw [← Hn.out]; exact hlt)⟩
      have hKw : Keep R w wr := hW.trans hK
      obtain ⟨k0, k1, k2, k3, k4, k5⟩ := hat.2 i x hx
      replace k0 := (hKw.cell (p := ⟨b, _, none⟩) hRb).trans k0
      replace k1 := (hKw.cell (p := ⟨b, _, none⟩) hRb).trans k1
      replace k2 := (hKw.cell (p := ⟨b, _, none⟩) hRb).trans k2
      replace k3 := (hKw.cell (p := ⟨b, _, none⟩) hRb).trans k3
      replace k4 := (hKw.cell (p := ⟨b, _, none⟩) hRb).trans k4
      replace k5 := (hKw.cell (p := ⟨b, _, none⟩) hRb).trans k5
      replace kb := (hK.cell (p := ⟨B, 26, none⟩) HB.out.2).trans kb
      have hst := fun (a : Addr) (w : World) => run_store Tryz.prog w a (rv i) .plain (Hone.out i x hx)
      have Hx := hide hx
      clear hx hat hKw
      have hB1 : Below wr.heap.size wr (wr.alloc (.cells #[.int .i64 x.type, .int .i64 x.num, .int .i64 x.flags, .int .i64 x.sum, rv i, .string (bs x.data)] 57)) := (Below.refl _ _).alloc (Nat.le_refl _) _
      have hJ1 := hJ i _ _ hJi (Own1.of_below hB1)
      obtain ⟨fn, tmps, assign, body, hy, hR⟩ := HY.out i _ _ (blkItems_get Hx.out) hJ1
      rw [← Hn.out] at hy
      simp only [blkEnc] at hy
      have kb1 := (hB1.cell (p := ⟨B, 26, none⟩) (cell_lt kb)).trans kb
      have hw1 : wrap64 ((n : Int) - 1) = n - 1 := by unfold wrap64; omega
      have hlast : decide (i + 1 = n) = ((i : Int) == (n : Int) - 1) := by
        rw [Bool.eq_iff_iff]; simp; omega
      rw [hlast] at hy
      gi_wp2
      refine ⟨rfl, hR.mono ?_⟩
      rintro e W' (⟨rfl, hJ', hk⟩ | ⟨rfl, hJx'⟩)
      · clear k0 k1 k2 k3 k4 k5 kb kb1 hy hst hR hlast
        gi_wp2
        go_roundw
        case rel => exact ⟨i + 1, by omega, by go_num, hJ', (hK.trans ⟨hB1.size, fun k hk => hB1.block k (Nat.lt_of_lt_of_le (hRlt k hk) (hW.trans hK).size)⟩).trans hk⟩
        case measure => simp [intOf]; omega
      · clear k0 k1 k2 k3 k4 k5 kb kb1 hy hst hR hlast
        gi_wp2
        simp only [Exit.noGoto]
        go_end0
        exact ⟨⟨_, rfl⟩, .inr hJx'⟩
    · have hin : i = n := by omega
      subst hin
      gi_wp2
      simp only [Exit.noGoto]
      go_end0
      exact ⟨⟨_, rfl⟩, .inl (by rw [blkItems_length, ← Hn.out]; exact hJi)⟩
end Go.Proofs.YtllfaffbaijgfaaGreatDoor

namespace Go.Proofs.YtllfaffbaijgfaaGreatDoor
open Go Go.RowKit

theorem heapNew {u W : World} {o : Obj} {n : Nat} (hbel : Below (n + 1) (u.alloc o) W) (hnew : n = u.heap.size) : W.heap[n]? = some o := by
  subst hnew
  exact (hbel.block u.heap.size (Nat.lt_succ_self _)).trans (World.alloc_heap_new u o)

theorem load_row {P : Program} {W : World} {b n : Nat} {t t' : TypeId} {c : Array Value} {m : Nat × Nat} {d : TypeDesc} (hheap : W.heap[b]? = some (.cells c t' m)) (hu : P.underlying t = some d) (hd : d.isRow = true) (hi : (P.info? t).map (·.size) = some n) (hc : c.size = n) :
    (loadVar t ⟨b, 0, none⟩).run P W = .ok (.agg c) W := by
  have := run_loadVar_mid (P := P) W b 0 t c.toList d (fun j v hv => by
    have hv' : c[j]? = some v := by simpa using hv
    simp [World.cell?, hheap, hv']) hu hd (by simp [hc, hi])
  simpa using this

theorem wp_load_of {P : Program} {op : Oper} {a : Act} {w : World} {K : Act → World → Prop} {Q : Exit → Act → World → Prop} {ty : TypeId} {x : Operand} {p : Addr} {v : Value} (ho : op.op = .load ty x) (hx : a.eval x = .pointer (some p))
    (hr : (loadVar ty p).run P w = .ok v w) (hgo : K (a.put op.dst v) w) : op.wp P a w K Q := by
  unfold Oper.wp execOp
  simp only [ho, hx, Instr.loadAt, Instr.sureAddr, Sem.run_bind, Sem.run_pure, Result.andThen_ok, hr]
  exact hgo
theorem wpList_load_of {P : Program} {ops : Array Oper} {rest : List Oper} {op : Oper} {a : Act} {w : World} {Q : Exit → Act → World → Prop} {ty : TypeId} {x : Operand} {p : Addr} {v : Value} (hgd : op.guard = none) (ho : op.op = .load ty x) (hx : a.eval x = .pointer (some p))
    (hr : (loadVar ty p).run P w = .ok v w) (hgo : wpList P ops Q rest (a.put op.dst v) w) : wpList P ops Q (op :: rest) a w :=
  wpList_plain hgd fun _ hK => wp_load_of ho hx hr (hK _ _ hgo)
theorem wpIn_load_of {F : Fence} {n : Nat} {P : Program} {op : Oper} {a : Act} {w : World} {K : Act → World → Prop} {Q : Exit → Act → World → Prop} {ty : TypeId} {x : Operand} {p : Addr} {v : Value} (ho : op.op = .load ty x) (hx : a.eval x = .pointer (some p))
    (hr : (loadVar ty p).run P w = .ok v w) (hgo : K (a.put op.dst v) w) : op.wpIn F n P a w K Q := by
  refine ⟨fun f hf => ?_, ?_⟩
  · simp [Oper.about, ho] at hf
  · have he : Oper.semAt F.round a.eval op = execOp a.eval op := by
      cases F.round with
      | none => rfl
      | some l => exact Oper.semAt_some l _ _ (by simp [ho])
    rw [he]
    unfold execOp
    simp only [ho, hx, Instr.loadAt, Instr.sureAddr, Sem.run_bind, Sem.run_pure, Result.andThen_ok, hr]
    exact hgo
theorem wpListIn_load_of {F : Fence} {n : Nat} {P : Program} {ops : Array Oper} {rest : List Oper} {op : Oper} {a : Act} {w : World} {Q : Exit → Act → World → Prop} {ty : TypeId} {x : Operand} {p : Addr} {v : Value} (hgd : op.guard = none) (ho : op.op = .load ty x) (hx : a.eval x = .pointer (some p))
    (hr : (loadVar ty p).run P w = .ok v w) (hgo : wpListIn F n P ops Q rest (a.put op.dst v) w) : wpListIn F n P ops Q (op :: rest) a w :=
  wpListIn_plain hgd fun _ hK => wpIn_load_of ho hx hr (hK _ _ hgo)

theorem wpList_load_w {P : Program} {ops : Array Oper} {rest : List Oper} {op : Oper} {a : Act} {w : World} {Q : Exit → Act → World → Prop} {ty : TypeId} {x : Operand} {p : Addr} {v : Value} (hgd : Region.wanted op (yielded ops a.tmps) = true) (ho : op.op = .load ty x) (hx : a.eval x = .pointer (some p))
    (hr : (loadVar ty p).run P w = .ok v w) (hgo : wpList P ops Q rest (a.put op.dst v) w) : wpList P ops Q (op :: rest) a w := by
  unfold wpList
  rw [if_pos hgd]
  exact .inl (wp_load_of ho hx hr hgo)

theorem quiet_load_of {P : Program} {C : World → Prop} {o : Oper} {a : Act} {K : Act → Prop} {ty : TypeId} {x : Operand} {p : Addr} {v : Value} (ho : o.op = .load ty x) (hx : a.eval x = .pointer (some p))
    (hr : ∀ w, C w → (loadVar ty p).run P w = .ok v w) (hgo : K (a.put o.dst v)) : o.quiet P a C K :=
  ⟨v, fun w hw => by
    unfold Oper.quietAt execOp
    simp only [ho, hx, Instr.loadAt, Instr.sureAddr, Sem.run_bind, Sem.run_pure, Result.andThen_ok, hr w hw]
    exact ⟨rfl, rfl⟩, hgo⟩

theorem load_plain {P : Program} {w : World} {a : Addr} {v : Value} {ty : TypeId} {d : TypeDesc} (hu : P.underlying ty = some d) (hd : d.isRow = false) (hc : w.cell? a = some v) : (loadVar ty a).run P w = .ok v w := by
  have hi : (isAgg ty).run P w = .ok false w := by
    cases d <;> simp_all [isAgg, TypeDesc.isRow, Sem.run_bind, run_underlying hu, Result.andThen]
  simp only [loadVar, Sem.run_bind, hi, Result.andThen]
  simp [run_load, hc]

theorem results_cell1 {P : Program} {w : World} {fn : Func} {p : Tmp} {ty : TypeId} {tmps : Array Value} {a : Addr} {v : Value} (h : fn.results = #[.cell p ty]) (hp : tmps.getD p undef = .pointer (some a)) (hl : (loadVar ty a).run P w = .ok v w) : (results fn tmps).run P w = .ok v w := by
  simp only [results, h]
  have ha : (asAddr (tmps.getD p undef)).run P w = .ok a w := by rw [hp]; rfl
  rw [Array.getD_eq_getD_getElem?] at ha
  simp [Sem.run_bind, Result.andThen, hl, ha]
end Go.Proofs.YtllfaffbaijgfaaGreatDoor

namespace Go.Proofs.YtllfaffbaijgfaaGreatDoor
open Go Go.RowKit Go.Shelf
attribute [local go_sem] Oper.semAt_some

/-- where a bundle's blocks lie -/
structure Lies (w : World) (l : List Block) (rv : Nat → Value) (a : Option Addr) : Prop where
  len : l.length ≤ 9000000000000000000
  there : 0 < l.length → ∃ b o, a = some ⟨b, o, none⟩ ∧ BlocksAt w l rv b o
  refs : ∀ i x, l[i]? = some x → EidsV w x.refs (rv i)
theorem EidsV.oneCell {w : World} {l : List Eid} {v : Value} (h : EidsV w l v) : v.oneCell' = true := by
  obtain ⟨a, cap, rfl, _⟩ := h
  rfl
theorem Lies.mono {w w' : World} {l : List Block} {rv : Nat → Value} {a : Option Addr} (h : Lies w l rv a) (hb : Below w.heap.size w w') : Lies w' l rv a :=
  ⟨h.len, fun hn => by obtain ⟨b, o, h1, h2⟩ := h.there hn; exact ⟨b, o, h1, h2.mono hb h2.1⟩, fun i x hx => (h.refs i x hx).mono hb⟩
def loadOf (l : List Block) : List UInt8 := match l.getLast? with | some b => b.data | none => []
theorem loadOf_last {l : List Block} {i : Nat} {x : Block} (hx : l[i]? = some x) (hi : i + 1 = l.length) : loadOf l = x.data := by
  unfold loadOf
  rw [List.getLast?_eq_getElem?, show l.length - 1 = i by omega, hx]

theorem sixBlocks_calls (x : Six) (bv : Value) (w : World) (hbv : bv.oneCell' = true) : Calls Tryz.prog 45 #[.agg #[.int .i64 x.flags, .int .i64 x.dest.scheme, .string (bs x.dest.node), .string (bs x.dest.service), .int .i64 x.dest.a, .int .i64 x.dest.b, .int .i64 x.source.scheme, .string (bs x.source.node), .string (bs x.source.service), .int .i64 x.source.a, .int .i64 x.source.b, .int .i64 x.report.scheme, .string (bs x.report.node), .string (bs x.report.service), .int .i64 x.report.a, .int .i64 x.report.b, .int .i64 x.custodian.scheme, .string (bs x.custodian.node), .string (bs x.custodian.service), .int .i64 x.custodian.a, .int .i64 x.custodian.b, .int .i64 x.time, .int .i64 x.seq, .int .i64 x.life, .int .i64 x.off, .int .i64 x.total, bv]] w (fun e w' => e = .returned (.func (.func 113) #[] #[.pointer (some ⟨w.heap.size, 0, none⟩)]) ∧ w' = w.alloc (.cells #[.int .i64 x.flags, .int .i64 x.dest.scheme, .string (bs x.dest.node), .string (bs x.dest.service), .int .i64 x.dest.a, .int .i64 x.dest.b, .int .i64 x.source.scheme, .string (bs x.source.node), .string (bs x.source.service), .int .i64 x.source.a, .int .i64 x.source.b, .int .i64 x.report.scheme, .string (bs x.report.node), .string (bs x.report.service), .int .i64 x.report.a, .int .i64 x.report.b, .int .i64 x.custodian.scheme, .string (bs x.custodian.node), .string (bs x.custodian.service), .int .i64 x.custodian.a, .int .i64 x.custodian.b, .int .i64 x.time, .int .i64 x.seq, .int .i64 x.life, .int .i64 x.off, .int .i64 x.total, bv] 32)) := by
  have hst := fun (a : Addr) (w : World) => run_store Tryz.prog w a bv .plain hbv
  go_enter Tryz.func45, Tryz.ntmps45
  go_wp2
  go_ret
  exact ⟨rfl, rfl⟩

set_option maxRecDepth 100000 in
theorem sixLoad_calls (x : Six) (rv : Nat → Value) (a : Option Addr) (cap : Nat) (w : World) (h : Lies w x.blocks rv a) :
    Calls Tryz.prog 16 #[.agg #[.int .i64 x.flags, .int .i64 x.dest.scheme, .string (bs x.dest.node), .string (bs x.dest.service), .int .i64 x.dest.a, .int .i64 x.dest.b, .int .i64 x.source.scheme, .string (bs x.source.node), .string (bs x.source.service), .int .i64 x.source.a, .int .i64 x.source.b, .int .i64 x.report.scheme, .string (bs x.report.node), .string (bs x.report.service), .int .i64 x.report.a, .int .i64 x.report.b, .int .i64 x.custodian.scheme, .string (bs x.custodian.node), .string (bs x.custodian.service), .int .i64 x.custodian.a, .int .i64 x.custodian.b, .int .i64 x.time, .int .i64 x.seq, .int .i64 x.life, .int .i64 x.off, .int .i64 x.total, .slice a x.blocks.length cap]] w (Rt w (.string (bs (loadOf x.blocks)))) := by
  have H := hide h
  clear h
  obtain ⟨n, hn⟩ : ∃ n, n = x.blocks.length := ⟨_, rfl⟩
  rw [← hn]
  have hlen : n ≤ 9000000000000000000 := by rw [hn]; exact H.out.len
  have Hn := hide hn
  clear hn
  refine (callsIn_wide (n := 0)).1 ?_
  refine callsIn_of_wp_marks Tryz.func16 rfl trivial ?_ rfl
  simp only [Tryz.ntmps16, List.size_toArray, List.length_cons, List.length_nil, Nat.reduceAdd, Nat.reduceSub, Array.replicate_succ, Array.replicate_zero, List.push_toArray, List.append_toArray, List.nil_append, List.cons_append]
  gi_wp2_with (first | (apply wpListIn_load_of (ty := 32); (case hgd => exact rfl); (case ho => exact rfl); (case hx => exact rfl); (case hr => apply load_row (n := 27); (case hheap => apply heapNew (u := w); (case hbel => ((repeat' (first | exact Below.refl _ _ | assumption | (refine Below.drew ?_) | (refine Below.alloc ?_ ?_ _) | (refine Below.setCell ?_ ?_ _) | (refine Below.step (W := ?hW) ?hq ?_ ?_; case hq => assumption))) <;> (first | (simp; done) | (simp; omega) | (simp at *; omega)))); (case hnew => exact rfl)); (case hu => exact Tryz.underlying32); (case hd => exact rfl); (case hi => kernel_rfl); (case hc => exact rfl))) | (apply wpIn_load_of (ty := 32); (case ho => exact rfl); (case hx => exact rfl); (case hr => apply load_row (n := 27); (case hheap => apply heapNew (u := w); (case hbel => ((repeat' (first | exact Below.refl _ _ | assumption | (refine Below.drew ?_) | (refine Below.alloc ?_ ?_ _) | (refine Below.setCell ?_ ?_ _) | (refine Below.step (W := ?hW) ?hq ?_ ?_; case hq => assumption))) <;> (first | (simp; done) | (simp; omega) | (simp at *; omega)))); (case hnew => exact rfl)); (case hu => exact Tryz.underlying32); (case hd => exact rfl); (case hi => kernel_rfl); (case hc => exact rfl))))
  refine ⟨trivial, rfl, ?_⟩
  refine (callsIn_wide.2 (sixBlocks_calls x (.slice a n cap) _ rfl)).mono ?_
  rintro e_ w_ ⟨rfl, hw_⟩
  obtain ⟨W0, hW0⟩ : ∃ W0, ((w.alloc (.cells #[.int .i64 x.flags, .int .i64 x.dest.scheme, .string (bs x.dest.node), .string (bs x.dest.service), .int .i64 x.dest.a, .int .i64 x.dest.b, .int .i64 x.source.scheme, .string (bs x.source.node), .string (bs x.source.service), .int .i64 x.source.a, .int .i64 x.source.b, .int .i64 x.report.scheme, .string (bs x.report.node), .string (bs x.report.service), .int .i64 x.report.a, .int .i64 x.report.b, .int .i64 x.custodian.scheme, .string (bs x.custodian.node), .string (bs x.custodian.service), .int .i64 x.custodian.a, .int .i64 x.custodian.b, .int .i64 x.time, .int .i64 x.seq, .int .i64 x.life, .int .i64 x.off, .int .i64 x.total, .slice a n cap] 32)).alloc (.cells #[.string { data := #[] }] 9)) = W0 := ⟨_, rfl⟩
  rw [hW0] at hw_ ⊢
  have hB0 : Below w.heap.size w W0 := by rw [← hW0]; ((repeat' (first | exact Below.refl _ _ | assumption | (refine Below.drew ?_) | (refine Below.alloc ?_ ?_ _) | (refine Below.setCell ?_ ?_ _) | (refine Below.step (W := ?hW) ?hq ?_ ?_; case hq => assumption))) <;> (first | (simp; done) | (simp; omega) | (simp at *; omega)))
  have hz0 : W0.heap.size = w.heap.size + 2 := by rw [← hW0]; simp
  have hr0 : W0.cell? ⟨w.heap.size + 1, 0, none⟩ = some (.string { data := #[] }) := by rw [← hW0]; simp
  have hf0 : W0.frozen? ⟨w.heap.size + 1, 0, none⟩ = false := by rw [← hW0]; simp [World.frozen?_alloc_at]
  clear hW0
  have hB1 : Below W0.heap.size W0 w_ := by rw [hw_]; ((repeat' (first | exact Below.refl _ _ | assumption | (refine Below.drew ?_) | (refine Below.alloc ?_ ?_ _) | (refine Below.setCell ?_ ?_ _) | (refine Below.step (W := ?hW) ?hq ?_ ?_; case hq => assumption))) <;> (first | (simp; done) | (simp; omega) | (simp at *; omega)))
  have hz1 : w_.heap.size = w.heap.size + 3 := by rw [hw_]; simp [hz0]
  have hbox : w_.cell? ⟨W0.heap.size, 26, none⟩ = some (.slice a n cap) := by rw [hw_]; simp
  have hr1 := (hB1.cell (p := ⟨w.heap.size + 1, 0, none⟩) (show w.heap.size + 1 < W0.heap.size by omega)).trans hr0
  have hf1 := (hB1.frozen (p := ⟨w.heap.size + 1, 0, none⟩) (show w.heap.size + 1 < W0.heap.size by omega)).trans hf0
  have hBw : Below w.heap.size w w_ := hB0.trans (hB1.mono (by omega))
  clear hw_ hr0 hf0
  have HL := hide (H.out.mono hBw)
  rw [hz0] at hbox
  have hlb : ∀ k, k < w.heap.size ∨ k = w.heap.size + 2 → k < w_.heap.size := fun k hk => by omega
  have hbase : ∀ b o, a = some ⟨b, o, none⟩ → 0 < x.blocks.length → b < w.heap.size := fun b o e hn => by
    obtain ⟨b', o', e', h⟩ := H.out.there hn
    rw [e'] at e; cases e; exact h.1
  have hit : Iter Tryz.prog 113 #[.pointer (some ⟨w.heap.size + 2, 0, none⟩)] blkEnc (blkItems x.blocks rv) (fun k => k < w.heap.size ∨ k = w.heap.size + 2) (fun _ => False) w_ :=
    sixIter x.blocks rv a cap (w.heap.size + 2) _ w_ HL.out.len (by rw [← Hn.out]; exact hbox) (.inr rfl)
      (fun hn => by obtain ⟨b, o, e, h⟩ := HL.out.there hn; exact ⟨b, o, e, .inl (hbase b o e hn), h⟩)
      (fun i y hy => (HL.out.refs i y hy).oneCell) hlb
  have Hit := hide hit
  clear hit hbase
  gi_wp2
  refine wp_range (gf := 113) (lb := #[.pointer (some ⟨w.heap.size + 2, 0, none⟩)]) rfl (enters_of Tryz.func113 (by kernel_rfl) rfl) Hit.out (fun _ => rfl) hlb (fun _ h => h.elim)
    (fun i W => (i = 0 ∨ i < n) ∧ (∃ s, W.cell? ⟨w.heap.size + 1, 0, none⟩ = some (.string s)) ∧ W.frozen? ⟨w.heap.size + 1, 0, none⟩ = false ∧ Below w.heap.size w W)
    (fun c W => c = .ret ∧ W.cell? ⟨w.heap.size + 1, 0, none⟩ = some (.string (bs (loadOf x.blocks))) ∧ Below w.heap.size w W)
    (fun i A B h hs => by
      obtain ⟨h1, ⟨s, h2⟩, h3, h4⟩ := h
      exact ⟨h1, ⟨s, hs.cell h2 id⟩, (hs.frozen h2 id).trans h3, hs.below h4 (by omega) h4.size (fun _ h => h.elim)⟩)
    (fun c A B h hs => ⟨h.1, hs.cell h.2.1 id, hs.below h.2.2 (by omega) h.2.2.size (fun _ h => h.elim)⟩)
    ⟨.inl rfl, ⟨_, hr1⟩, hf1, hBw⟩ ?round ?done ?stop
  case round =>
    intro l i y W hl hy hi hrec
    obtain ⟨z, hz, rfl⟩ := blkItems_at hy
    have hone := (HL.out.refs i z hz).oneCell
    have hst := fun (a : Addr) (w : World) => run_store Tryz.prog w a (rv i) .plain hone
    obtain ⟨hin, ⟨s, hcr⟩, hfr, hBW⟩ := hi
    have hW : w_.heap.size < W.heap.size := by obtain ⟨r, hr⟩ := hrec; have := (Array.getElem?_eq_some_iff.1 hr).1; omega
    have hBn : ∀ o, Below W.heap.size W (W.alloc o) := fun o => (Below.refl _ W).alloc (Nat.le_refl _) o
    obtain ⟨q, hq⟩ : ∃ q, q = decide (i + 1 = x.blocks.length) := ⟨_, rfl⟩
    rw [← hq]
    have Hq := hide hq
    have Hz := hide hz
    clear hq hz hy Hit hrec
    simp only [blkEnc]
    gi_wp2
    refine ⟨(KeepsOthers.alloc _ _).from _, Keep.of_below (hBn _) (fun k hk => by have := hlb k hk; omega), fun W₂ hs hk hkr hsz hc hf => ?_⟩
    have b5 : W₂.cell? ⟨W.heap.size, 5, none⟩ = some (.string (bs z.data)) := (hc _).trans (by simp)
    have hcr2 : W₂.cell? ⟨w.heap.size + 1, 0, none⟩ = some (.string s) := (hc _).trans (((hBn _).cell (p := ⟨w.heap.size + 1, 0, none⟩) (show w.heap.size + 1 < W.heap.size by omega)).trans hcr)
    have hfr2 : W₂.frozen? ⟨w.heap.size + 1, 0, none⟩ = false := (hf _).trans (((hBn _).frozen (p := ⟨w.heap.size + 1, 0, none⟩) (show w.heap.size + 1 < W.heap.size by omega)).trans hfr)
    have hBW2 : Below w.heap.size w W₂ := hs.below (hBW.alloc hBW.size _) (by omega) (Nat.le_trans hBW.size (hBn _).size) (fun _ h => h.elim)
    clear hs hkr hc hf hcr hfr
    cases q
    · gi_wp2
      refine ⟨KeepsFrom.refl _ _, Keep.refl _ _, ?_, ⟨s, hcr2⟩, hfr2, hBW2⟩
      have h1 : i + 1 ≠ x.blocks.length := by simpa using Hq.out
      have h2 := (List.getElem?_eq_some_iff.1 Hz.out).1
      exact .inr (by rw [Hn.out]; omega)
    · gi_wp2
      have h1 : i + 1 = x.blocks.length := by simpa using Hq.out
      refine ⟨(KeepsOthers.setCell _ _ _).from _, rfl, ?_, hBW2.setCell (p := ⟨w.heap.size + 1, 0, none⟩) (Nat.le_succ _) _⟩
      rw [loadOf_last Hz.out h1]
      exact World.cell?_setCell_same' _ _ _ (by rw [hcr2]; rfl)
  case done =>
    rintro D W hD ⟨hin, ⟨s, hcr⟩, hfr, hBW⟩ hK
    rw [blkItems_length, ← Hn.out] at hin
    have h0 : x.blocks = [] := by
      have : n = 0 := by omega
      exact List.length_eq_zero_iff.1 (by rw [← Hn.out]; exact this)
    clear Hit
    gi_wp2
    refine ⟨by simp, .inl ⟨_, _, rfl, run_takeDeferred ((KeepsOthers.setCell _ _ _).same D _ hK rfl), ?_⟩⟩
    have hK' := (KeepsOthers.setCell W ⟨w.heap.size + 1, 0, none⟩ (.string { data := #[] })).same D _ hK rfl
    refine ⟨_, results_cell1 rfl rfl (load_plain Tryz.underlying9 rfl (v := .string { data := #[] }) ?_), by rw [h0]; rfl, ?_⟩
    · rw [cell_putObj hK' rfl rfl]
      exact World.cell?_setCell_same' _ _ _ (by rw [hcr]; rfl)
    · exact below_putObj (hBW.setCell (p := ⟨w.heap.size + 1, 0, none⟩) (Nat.le_succ _) _) (by omega) _
  case stop =>
    rintro D c W hD ⟨rfl, hcr, hBW⟩ hK
    clear Hit
    gi_wp2
    refine ⟨by simp, .inl ⟨_, _, rfl, run_takeDeferred hK, ?_⟩⟩
    refine ⟨_, results_cell1 rfl rfl (load_plain Tryz.underlying9 rfl (v := .string (bs (loadOf x.blocks))) ?_), rfl, ?_⟩
    · rw [cell_putObj hK rfl rfl]
      exact hcr
    · exact below_putObj hBW (by omega) _
end Go.Proofs.YtllfaffbaijgfaaGreatDoor
