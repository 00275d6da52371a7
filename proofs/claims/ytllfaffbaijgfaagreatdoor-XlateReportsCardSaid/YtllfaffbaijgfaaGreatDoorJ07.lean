/- signs (rules as values). signs.set: the flags of some that are among them, one by one, and together. signs.Seconds: thousandths in seconds (a region that draws its order, with two new rules). -/
import Derived.Test.YtllfaffbaijgfaaGreatDoorJ06
import Derived.Test.YtllfaffbaijgfaaGreatDoorJ03
set_option linter.unusedVariables false
set_option linter.unusedSimpArgs false
namespace Go.Proofs.YtllfaffbaijgfaaGreatDoor
open Go Go.RowKit Go.Shelf

theorem cellLt {w : World} {b o : Nat} {v : Value} (h : w.cell? ⟨b, o, none⟩ = some v) : b < w.heap.size := by
  unfold World.cell? at h
  cases hb : w.heap[b]? with
  | none => simp [hb] at h
  | some x => exact (Array.getElem?_eq_some_iff.1 hb).1

/-- a rule, as a value -/
def RuleV (hold : Bool) (e : Option Addr) (v : Value) (W : World) : Prop := ∃ b c, v = .func (.func 180) #[] #[.pointer (some ⟨b, 0, none⟩), .pointer (some ⟨c, 0, none⟩)] ∧ W.cell? ⟨b, 0, none⟩ = some (.bool hold) ∧ W.cell? ⟨c, 0, none⟩ = some (errV e)
theorem RuleV.mono {hold : Bool} {e : Option Addr} {v : Value} {W W' : World} (h : RuleV hold e v W) (hb : Below W.heap.size W W') : RuleV hold e v W' := by
  obtain ⟨b, c, h1, h2, h3⟩ := h
  exact ⟨b, c, h1, (hb.cell (p := ⟨b, 0, none⟩) (cellLt h2)).trans h2, (hb.cell (p := ⟨c, 0, none⟩) (cellLt h3)).trans h3⟩
theorem must_rule (h : Bool) (e : Option Addr) (w : World) : Calls Tryz.prog 111 #[.bool h, errV e] w (fun en w' => ∃ v, en = .returned v ∧ RuleV h e v w' ∧ Below w.heap.size w w') :=
  (must_calls h e w).mono fun en w' ⟨h1, h2⟩ => by
    subst h1 h2
    refine ⟨_, rfl, ⟨_, _, rfl, cellOf (i := 0) (u := w) (c := #[.bool h]) (t := 4) (by ((repeat' (first | exact Below.refl _ _ | assumption | (refine Below.drew ?_) | (refine Below.alloc ?_ ?_ _) | (refine Below.setCell ?_ ?_ _) | (refine Below.step (W := ?hW) ?hq ?_ ?_; case hq => assumption))) <;> (first | (simp; done) | (simp; omega) | (simp at *; omega)))) rfl, cellOf (i := 0) (u := w.alloc (.cells #[.bool h] 4)) (c := #[errV e]) (t := 78) (by ((repeat' (first | exact Below.refl _ _ | assumption | (refine Below.drew ?_) | (refine Below.alloc ?_ ?_ _) | (refine Below.setCell ?_ ?_ _) | (refine Below.step (W := ?hW) ?hq ?_ ?_; case hq => assumption))) <;> (first | (simp; done) | (simp; omega) | (simp at *; omega)))) (by simp)⟩, by ((repeat' (first | exact Below.refl _ _ | assumption | (refine Below.drew ?_) | (refine Below.alloc ?_ ?_ _) | (refine Below.setCell ?_ ?_ _) | (refine Below.step (W := ?hW) ?hq ?_ ?_; case hq => assumption))) <;> (first | (simp; done) | (simp; omega) | (simp at *; omega)))⟩
def RulesV (l : List (Bool × Option Addr)) (v : Value) (W : World) : Prop := ∃ blk n, v = .slice (some ⟨blk, 0, none⟩) n n ∧ n = l.length ∧ blk < W.heap.size ∧ ∀ i x, l[i]? = some x → ∃ r, W.cell? ⟨blk, i, none⟩ = some r ∧ RuleV x.1 x.2 r W
theorem RulesV.mono {l : List (Bool × Option Addr)} {v : Value} {W W' : World} (h : RulesV l v W) (hb : Below W.heap.size W W') : RulesV l v W' := by
  obtain ⟨blk, n, h1, h2, h3, h4⟩ := h
  exact ⟨blk, n, h1, h2, Nat.lt_of_lt_of_le h3 hb.size, fun i x hx => by
    obtain ⟨r, h5, h6⟩ := h4 i x hx
    exact ⟨r, (hb.cell (p := ⟨blk, i, none⟩) h3).trans h5, h6.mono hb⟩⟩
def rulesE (l : List (Bool × Option Addr)) : Option Addr := l.findSome? fun x => if x.1 then none else x.2
theorem first_rules (l : List (Bool × Option Addr)) (v : Value) (W : World) (hlen : l.length ≤ 1000) (h : RulesV l v W) : Calls Tryz.prog 110 #[v] W (Rt W (errV (rulesE l))) := by
  obtain ⟨blk, n, rfl, rfl, h3, h4⟩ := h
  have key : ∀ (l : List (Bool × Option Addr)) (k : Nat), (∀ i x, l[i]? = some x → ∃ r, W.cell? ⟨blk, k + i, none⟩ = some r ∧ RuleV x.1 x.2 r W) →
      ∃ L : List (FuncId × Array Value × Option Addr), L.length = l.length ∧ AllR Tryz.prog W blk 0 k L ∧ firstE L = rulesE l := by
    intro l
    induction l with
    | nil => intro k _; exact ⟨[], rfl, trivial, rfl⟩
    | cons x l ih =>
      intro k hk
      obtain ⟨r, hr, b, c, rfl, hb, hc⟩ := hk 0 x rfl
      obtain ⟨L, h1, h2, h3⟩ := ih (k + 1) (fun i y hy => by have := hk (i + 1) y (by simpa using hy); rwa [show k + (i + 1) = k + 1 + i by omega] at this)
      refine ⟨(180, #[.pointer (some ⟨b, 0, none⟩), .pointer (some ⟨c, 0, none⟩)], if x.1 then none else x.2) :: L, by simp [h1], ⟨by rw [Nat.zero_add]; exact hr, enters_of Tryz.func180 (by kernel_rfl) rfl,
        fun W2 hW2 => Pu.rt (must1_calls x.1 x.2 _ _ W2 ((hW2.cell (p := ⟨b, 0, none⟩) (cellLt hb)).trans hb) ((hW2.cell (p := ⟨c, 0, none⟩) (cellLt hc)).trans hc)), fun _ => h2⟩, ?_⟩
      simp only [firstE, rulesE, List.findSome?_cons] at h3 ⊢
      rw [h3]
  obtain ⟨L, h1, h2, h5⟩ := key l 0 (fun i x hx => by simpa using h4 i x hx)
  rw [← h5]
  exact first_calls L blk 0 _ _ W h3 h1.symm (by omega) h2

end Go.Proofs.YtllfaffbaijgfaaGreatDoor

namespace Go.Proofs.YtllfaffbaijgfaaGreatDoor
open Go Go.RowKit Go.Shelf
attribute [local go_sem] Oper.semAt_some

theorem results_tmp1 {P : Program} {w : World} {fn : Func} {p : Tmp} {tmps : Array Value} {v : Value} (h : fn.results = #[.tmp p]) (hp : tmps.getD p undef = v) : (results fn tmps).run P w = .ok v w := by
  simp only [results, h]
  rw [Array.getD_eq_getD_getElem?] at hp
  simp [Sem.run_bind, Result.andThen, hp]

def flagIs (s all one : Int) : Bool := decide (one ≤ all) && bits .and .i64 all one != 0 && bits .and .i64 s one != 0
def flagsTo (s all : Int) (k : Nat) : List Int := ((List.range k).map fun j => ((2 ^ j : Nat) : Int)).filter (flagIs s all)
theorem flagsTo_succ (s all : Int) (k : Nat) : flagsTo s all (k + 1) = flagsTo s all k ++ if flagIs s all ((2 ^ k : Nat) : Int) then [((2 ^ k : Nat) : Int)] else [] := by
  unfold flagsTo
  rw [List.range_succ, List.map_append, List.filter_append]
  simp only [List.map_cons, List.map_nil, List.filter_cons, List.filter_nil]
theorem flagsTo_stop {s all : Int} {k : Nat} (h : all < ((2 ^ k : Nat) : Int)) : ∀ d, flagsTo s all (k + d) = flagsTo s all k
  | 0 => rfl
  | d + 1 => by
    rw [← Nat.add_assoc, flagsTo_succ, flagsTo_stop h d]
    have h1 : (2 ^ k : Nat) ≤ 2 ^ (k + d) := Nat.pow_le_pow_right (by decide) (by omega)
    have h2 : flagIs s all ((2 ^ (k + d) : Nat) : Int) = false := by
      unfold flagIs
      rw [decide_eq_false (by omega)]
      rfl
    rw [h2]
    simp
theorem flagsTo_len {s all : Int} {k j : Nat} (h : k ≤ j) : ∃ t, flagsTo s all j = flagsTo s all k ++ t := by
  induction j with
  | zero => exact ⟨[], by rw [show k = 0 by omega]; simp⟩
  | succ j ih =>
    by_cases e : k = j + 1
    · subst e; exact ⟨[], by simp⟩
    · obtain ⟨t, ht⟩ := ih (by omega)
      exact ⟨_, by rw [flagsTo_succ, ht, List.append_assoc]⟩
theorem flagsTo_at {s all : Int} {k j : Nat} (h : k < j) (hk : flagIs s all ((2 ^ k : Nat) : Int) = true) : (flagsTo s all j)[(flagsTo s all k).length]? = some ((2 ^ k : Nat) : Int) := by
  obtain ⟨t, ht⟩ := flagsTo_len (s := s) (all := all) (show k + 1 ≤ j by omega)
  rw [ht, flagsTo_succ, if_pos hk, List.append_assoc, List.getElem?_append_right (by omega)]
  simp
def flags (s all : Int) : List Int := flagsTo s all 20
def onlyI (s all : Int) : Int := (flags s all).foldl (fun x y => bits .or .i64 x y) 0

set_option maxRecDepth 100000 in
theorem flagIter (s all : Int) (A S : Nat) (R : Nat → Prop) (w : World) (h0 : 0 ≤ all) (hall : all < 524288) (hA : w.cell? ⟨A, 0, none⟩ = some (.int .i64 all)) (hS : w.cell? ⟨S, 0, none⟩ = some (.int .i64 s)) (hRA : R A) (hRS : R S) (hRlt : ∀ k, R k → k < w.heap.size) :
    Iter Tryz.prog 309 #[.pointer (some ⟨A, 0, none⟩), .pointer (some ⟨S, 0, none⟩)] (fun one => #[.int .i64 one]) (flags s all) R (fun _ => False) w := by
  intro lp J Jx W hW hJ hJx hY hj0
  have HY := hide hY
  have kA := (hW.cell (p := ⟨A, 0, none⟩) hRA).trans hA
  have kS := (hW.cell (p := ⟨S, 0, none⟩) hRS).trans hS
  have HA := hide (And.intro hRA hRS)
  clear hY hA hS hRA hRS
  refine callsIn_of_wp Tryz.func309 rfl trivial ?_ rfl
  simp only [Tryz.ntmps309, List.size_toArray, List.length_cons, List.length_nil, Nat.reduceAdd, Nat.reduceSub, Array.replicate_succ, Array.replicate_zero, List.push_toArray, List.append_toArray, List.nil_append, List.cons_append]
  refine wpIn_scope_wide ?_
  gi_wp2
  refine wpIn_label ?_
  gi_wp2
  gi_loopw [4] (fun k wr => ∃ j : Nat, j ≤ 19 ∧ k = .int .i64 ((2 ^ j : Nat) : Int) ∧ J (flagsTo s all j).length wr ∧ Keep R W wr) (fun k _ => 524288 * 2 - (intOf k).toNat)
  case atStart => exact ⟨0, Nat.zero_le _, rfl, hj0, Keep.refl _ _⟩
  case round =>
    obtain ⟨j, hj, rfl, hJi, hK⟩ := hrel
    have hp : (2 ^ j : Nat) ≤ 2 ^ 19 := Nat.pow_le_pow_right (by decide) hj
    have hpos : 0 < (2 ^ j : Nat) := Nat.pow_pos (by decide)
    obtain ⟨o, ho⟩ : ∃ o : Int, o = ((2 ^ j : Nat) : Int) := ⟨_, rfl⟩
    rw [← ho]
    replace kA := (hK.cell (p := ⟨A, 0, none⟩) HA.out.1).trans kA
    replace kS := (hK.cell (p := ⟨S, 0, none⟩) HA.out.2).trans kS
    have hb1 : 0 < o := by omega
    have hb2 : o ≤ 524288 := by omega
    obtain ⟨r, hr⟩ : ∃ r, r = (bits .and .i64 s o != 0) := ⟨_, rfl⟩
    have hsucc : o * 2 = ((2 ^ (j + 1) : Nat) : Int) := by rw [ho, Nat.pow_succ]; omega
    have Hs := hide hsucc
    have Ho := hide ho
    have Hj := hide hj
    clear ho hp hpos hsucc hj
    by_cases hle : o ≤ all
    · have hj18 : j + 1 ≤ 19 := by
        rcases Nat.lt_or_ge j 19 with h | h
        · omega
        · have h1 := Ho.out
          have : (2 ^ 19 : Nat) ≤ 2 ^ j := Nat.pow_le_pow_right (by decide) h
          omega
      have hj18 := hide hj18
      by_cases hm : bits .and .i64 all o = 0
      · gi_wp2
        refine ⟨trivial, ?_⟩
        gi_wp2
        refine ⟨(by intro _ h; cases h), ?_⟩
        gi_wp2
        go_roundw
        case rel =>
          refine ⟨j + 1, hj18.out, by first | exact congrArg _ Hs.out | trace_state, ?_, hK⟩
          have : flagIs s all ((2 ^ j : Nat) : Int) = false := by rw [← Ho.out]; simp [flagIs, hm]
          rw [flagsTo_succ, this]
          simpa using hJi
        case measure => simp [intOf]; omega
      · have hb3 : (bits .and .i64 all o != 0) = true := by simpa using hm
        gi_wp2
        refine ⟨trivial, rfl, ?_⟩
        refine (callsIn_wide.2 (has_calls s o wr)).mono ?_
        rintro e_ w_ ⟨rfl, hb_⟩
        rw [← hr]
        have Hr := hide hr
        clear hr
        have hJw := hJ _ _ _ hJi (Own1.of_below hb_)
        have hK_ : Keep R wr w_ := ⟨hb_.size, fun k hk => hb_.block k (Nat.lt_of_lt_of_le (hRlt k hk) (hW.trans hK).size)⟩
        cases r
        · gi_wp2
          refine ⟨(by intro _ h; cases h), ?_⟩
          gi_wp2
          go_roundw
          case rel =>
            refine ⟨j + 1, hj18.out, by exact congrArg _ Hs.out, ?_, hK.trans hK_⟩
            have : flagIs s all ((2 ^ j : Nat) : Int) = false := by rw [← Ho.out]; simp [flagIs, ← Hr.out]
            rw [flagsTo_succ, this]
            simpa using hJw
          case measure => simp [intOf]; omega
        · have hit : flagIs s all ((2 ^ j : Nat) : Int) = true := by rw [← Ho.out]; simp [flagIs, ← Hr.out, hle, hb3]
          have hx : (flags s all)[(flagsTo s all j).length]? = some o := by rw [Ho.out]; exact flagsTo_at (by have := Hj.out; omega) hit
          have hit := hide hit
          obtain ⟨fn, tmps, assign, body, hy, hR⟩ := HY.out _ o w_ hx hJw
          clear hx
          gi_wp2
          refine ⟨rfl, hR.mono ?_⟩
          rintro e W' (⟨rfl, hJ', hk⟩ | ⟨rfl, hJx'⟩)
          · clear hy hR kA kS
            gi_wp2
            go_roundw
            case rel =>
              refine ⟨j + 1, hj18.out, by exact congrArg _ Hs.out, ?_, (hK.trans hK_).trans hk⟩
              rw [flagsTo_succ, if_pos hit.out]
              simpa using hJ'
            case measure => simp [intOf]; omega
          · clear hy hR kA kS
            gi_wp2
            simp only [Exit.noGoto]
            go_end0
            exact ⟨⟨_, rfl⟩, .inr hJx'⟩
    · gi_wp2
      go_end0
      refine ⟨⟨_, rfl⟩, .inl ?_⟩
      have : flags s all = flagsTo s all j := by
        have h1 := flagsTo_stop (s := s) (all := all) (k := j) (by rw [← Ho.out]; omega) (20 - j)
        rwa [show j + (20 - j) = 20 by have := Hj.out; omega] at h1
      rw [this]
      exact hJi

theorem each_calls (s all : Int) (w : World) : Calls Tryz.prog 246 #[.agg #[.int .i64 s], .int .i64 all] w (fun e w' => e = .returned (.func (.func 309) #[] #[.pointer (some ⟨w.heap.size + 1, 0, none⟩), .pointer (some ⟨w.heap.size, 0, none⟩)]) ∧ w' = (w.alloc (.cells #[.int .i64 s] 210)).alloc (.cells #[.int .i64 all] 3)) := by
  go_enter Tryz.func246, Tryz.ntmps246
  go_wp2
  go_ret
  exact ⟨rfl, rfl⟩

set_option maxRecDepth 100000 in
theorem only_calls (s all : Int) (w : World) (h0 : 0 ≤ all) (hall : all < 524288) : Calls Tryz.prog 166 #[.agg #[.int .i64 s], .int .i64 all] w (Rt w (.int .i64 (onlyI s all))) := by
  refine (callsIn_wide (n := 0)).1 ?_
  refine callsIn_of_wp_marks Tryz.func166 rfl trivial ?_ rfl
  simp only [Tryz.ntmps166, List.size_toArray, List.length_cons, List.length_nil, Nat.reduceAdd, Nat.reduceSub, Array.replicate_succ, Array.replicate_zero, List.push_toArray, List.append_toArray, List.nil_append, List.cons_append]
  gi_wp2
  refine ⟨trivial, rfl, ?_⟩
  refine (callsIn_wide.2 (each_calls s all _)).mono ?_
  rintro e_ w_ ⟨rfl, hw_⟩
  have hz : ((w.alloc (.cells #[.int .i64 s] 210)).alloc (.cells #[.int .i64 0] 3)).heap.size = w.heap.size + 2 := by simp
  have hB : Below w.heap.size w w_ := by rw [hw_]; ((repeat' (first | exact Below.refl _ _ | assumption | (refine Below.drew ?_) | (refine Below.alloc ?_ ?_ _) | (refine Below.setCell ?_ ?_ _) | (refine Below.step (W := ?hW) ?hq ?_ ?_; case hq => assumption))) <;> (first | (simp; done) | (simp; omega) | (simp at *; omega)))
  have hzw : w_.heap.size = w.heap.size + 4 := by rw [hw_]; simp
  have hO : w_.cell? ⟨w.heap.size + 1, 0, none⟩ = some (.int .i64 0) := by
    rw [hw_]; exact cellOf (i := 0) (u := w.alloc (.cells #[.int .i64 s] 210)) (c := #[.int .i64 0]) (t := 3) (by ((repeat' (first | exact Below.refl _ _ | assumption | (refine Below.drew ?_) | (refine Below.alloc ?_ ?_ _) | (refine Below.setCell ?_ ?_ _) | (refine Below.step (W := ?hW) ?hq ?_ ?_; case hq => assumption))) <;> (first | (simp; done) | (simp; omega) | (simp at *; omega)))) (by simp)
  have hOf : w_.frozen? ⟨w.heap.size + 1, 0, none⟩ = false := by
    rw [hw_]; simp [World.frozen?_alloc_at, World.frozen?_alloc_past]
  have hS : w_.cell? ⟨w.heap.size + 2, 0, none⟩ = some (.int .i64 s) := by
    rw [hw_]; exact cellOf (i := 0) (u := (w.alloc (.cells #[.int .i64 s] 210)).alloc (.cells #[.int .i64 0] 3)) (c := #[.int .i64 s]) (t := 210) (by ((repeat' (first | exact Below.refl _ _ | assumption | (refine Below.drew ?_) | (refine Below.alloc ?_ ?_ _) | (refine Below.setCell ?_ ?_ _) | (refine Below.step (W := ?hW) ?hq ?_ ?_; case hq => assumption))) <;> (first | (simp; done) | (simp; omega) | (simp at *; omega)))) (by simp)
  have hA : w_.cell? ⟨w.heap.size + 2 + 1, 0, none⟩ = some (.int .i64 all) := by
    rw [hw_]; exact cellOf (i := 0) (u := ((w.alloc (.cells #[.int .i64 s] 210)).alloc (.cells #[.int .i64 0] 3)).alloc (.cells #[.int .i64 s] 210)) (c := #[.int .i64 all]) (t := 3) (by ((repeat' (first | exact Below.refl _ _ | assumption | (refine Below.drew ?_) | (refine Below.alloc ?_ ?_ _) | (refine Below.setCell ?_ ?_ _) | (refine Below.step (W := ?hW) ?hq ?_ ?_; case hq => assumption))) <;> (first | (simp; done) | (simp; omega) | (simp at *; omega)))) (by simp)
  rw [hz]
  clear hw_ hz
  have hlb : ∀ k, (k = w.heap.size + 2 ∨ k = w.heap.size + 2 + 1) → k < w_.heap.size := fun k hk => by omega
  have Hit := hide (flagIter s all (w.heap.size + 2 + 1) (w.heap.size + 2) (fun k => k = w.heap.size + 2 ∨ k = w.heap.size + 2 + 1) w_ h0 hall hA hS (.inr rfl) (.inl rfl) hlb)
  gi_wp2
  refine wp_range (gf := 309) (lb := #[.pointer (some ⟨w.heap.size + 2 + 1, 0, none⟩), .pointer (some ⟨w.heap.size + 2, 0, none⟩)]) rfl (enters_of Tryz.func309 (by kernel_rfl) rfl) Hit.out (fun _ => rfl) hlb (fun _ h => h.elim)
    (fun i W => W.cell? ⟨w.heap.size + 1, 0, none⟩ = some (.int .i64 (((flags s all).take i).foldl (fun x y => bits .or .i64 x y) 0)) ∧ W.frozen? ⟨w.heap.size + 1, 0, none⟩ = false ∧ Below w.heap.size w W)
    (fun c W => False)
    (fun i A B h hs => by
      obtain ⟨h2, h3, h4⟩ := h
      exact ⟨hs.cell h2 id, (hs.frozen h2 id).trans h3, hs.below h4 (by omega) h4.size (fun _ h => h.elim)⟩)
    (fun c A B h hs => h.elim)
    ⟨hO, hOf, hB⟩ ?round ?done ?stop
  case stop => exact fun _ _ _ _ h => h.elim
  case round =>
    intro l i y W hl hy hi hrec
    obtain ⟨hcr, hfr, hBW⟩ := hi
    have hW : w_.heap.size < W.heap.size := by obtain ⟨r, hr⟩ := hrec; have := (Array.getElem?_eq_some_iff.1 hr).1; omega
    obtain ⟨x, hx⟩ : ∃ x, x = ((flags s all).take i).foldl (fun x y => bits .or .i64 x y) 0 := ⟨_, rfl⟩
    rw [← hx] at hcr
    have hx1 : ((flags s all).take (i + 1)).foldl (fun x y => bits .or .i64 x y) 0 = bits .or .i64 x y := by
      rw [hx, List.take_add_one, hy, List.foldl_append]; rfl
    have Hx1 := hide hx1
    clear hx hx1 hy Hit hrec
    gi_wp2
    refine ⟨KeepsFrom.refl _ _, Keep.refl _ _, fun W₂ hs hk hkr hsz hc hf => ?_⟩
    have hcr2 := (hc _).trans hcr
    have hfr2 := (hf _).trans hfr
    have hBW2 : Below w.heap.size w W₂ := hs.below hBW (by omega) hBW.size (fun _ h => h.elim)
    clear hs hkr hc hf hcr hfr
    gi_wp2
    refine ⟨(KeepsOthers.setCell _ _ _).from _, ?_, ?_, ?_, ?_⟩
    · exact ⟨by rw [size_setCell]; exact Nat.le_refl _, fun k hk => heap_setCell_ne (by omega)⟩
    · rw [Hx1.out]
      exact World.cell?_setCell_same' _ _ _ (by rw [hcr2]; rfl)
    · rw [World.frozen?_setCell]; exact hfr2
    · exact hBW2.setCell (p := ⟨w.heap.size + 1, 0, none⟩) (Nat.le_succ _) _
  case done =>
    rintro D W hD ⟨hcr, hfr, hBW⟩ hK
    rw [List.take_length] at hcr
    clear Hit
    gi_wp2
    refine ⟨by simp, .inl ⟨_, _, rfl, run_takeDeferred hK, ?_⟩⟩
    refine ⟨_, results_tmp1 rfl rfl, rfl, ?_⟩
    exact below_putObj hBW (by omega) _
end Go.Proofs.YtllfaffbaijgfaaGreatDoor

namespace Go.Proofs.YtllfaffbaijgfaaGreatDoor
open Go Go.RowKit Go.Shelf

/-! seconds -/
def secondsE (n : Int) : Option Nat := if numR n = true then (if n.tmod 1000 = 0 then none else some 2) else some 1
def seconds (n : Int) : Int × Int := (if (secondsE n).isSome then 0 else IntKind.i64.wrap (n.tdiv 1000), errno (secondsE n))

def VS (S : Nat → Addr) (n t : Int) (p q : Bool) (E : Option Nat) (a b : Int) : Nat → Value → (Nat → Value) → World → Prop
  | 0, v, _, _ => v = .int .i64 n
  | 1, v, _, _ => v = .int .i64 t
  | 2, v, _, _ => v = .int .i64 n
  | 3, v, _, _ => v = .bool p
  | 4, v, _, _ => v = errV (some (S 1))
  | 5, v, _, W => RuleV p (some (S 1)) v W
  | 6, v, _, _ => v = .int .i64 n
  | 7, v, _, _ => v = .int .i64 (n.tmod 1000)
  | 8, v, _, _ => v = .bool q
  | 9, v, _, _ => v = errV (some (S 2))
  | 10, v, _, W => RuleV q (some (S 2)) v W
  | 11, v, _, W => RulesV [(p, some (S 1)), (q, some (S 2))] v W
  | 12, v, _, _ => v = errV (E.map S)
  | 13, v, _, _ => v = .tuple #[.int .i64 a, .int .i64 b]
  | 14, v, _, _ => v = .int .i64 a
  | 15, v, _, _ => v = .int .i64 b
  | _, _, _, _ => True

set_option maxRecDepth 100000 in
set_option maxHeartbeats 4000000 in
theorem seconds_calls (S : Nat → Addr) (n : Int) (w : World) (h : Sents S w) : Calls Tryz.prog 54 #[.int .i64 n] w (Rt w (.tuple #[.int .i64 (seconds n).1, .int .i64 (seconds n).2])) := by
  have H := hide h
  obtain ⟨p, hp⟩ : ∃ p, p = numR n := ⟨_, rfl⟩
  obtain ⟨q, hq⟩ : ∃ q, q = decide (n.tmod 1000 = 0) := ⟨_, rfl⟩
  obtain ⟨E, hE⟩ : ∃ E, E = secondsE n := ⟨_, rfl⟩
  have HE := hide (show rulesE [(p, some (S 1)), (q, some (S 2))] = E.map S ∧ ∀ g, E = some g → g ∈ signErrs by
    rw [hE, hp, hq, secondsE]
    by_cases h1 : numR n = true
    · by_cases h2 : n.tmod 1000 = 0
      · simp [rulesE, h1, h2]
      · simp only [rulesE, List.findSome?_cons, h1, h2, if_true, decide_false, if_false, Bool.false_eq_true]
        exact ⟨rfl, by intro g hg; cases hg; decide⟩
    · simp only [rulesE, List.findSome?_cons, h1, Bool.false_eq_true, if_false]
      exact ⟨rfl, by intro g hg; cases hg; decide⟩)
  have Hs := hide (show seconds n = (if E.isSome then 0 else IntKind.i64.wrap (n.tdiv 1000), errno E) by rw [seconds, hE])
  have Hp := hide (show ∀ W, Calls Tryz.prog 73 #[.int .i64 n] W (Rt W (.bool p)) from fun W => by rw [hp]; exact Pu.rt (numR_calls n W))
  have g1 := (h.1 1 (by decide)).1
  have g2 := (h.1 2 (by decide)).1
  have Hq := hide hq
  clear h hp hE hq
  go_enter Tryz.func54, Tryz.ntmps54
  go_wp2_with fail
  refine wp_region_pred 16 (fun W => Below w.heap.size w W) (fun W W' => Below W.heap.size W W') (VS S n (IntKind.i64.wrap (n.tdiv 1000)) p q E (if E.isSome then 0 else IntKind.i64.wrap (n.tdiv 1000)) (errno E)) (by kernel_rfl) (by kernel_rfl) (Below.refl _ _).drew
    (fun W W' h hg => h.trans (hg.mono h.size)) ?hV (fun W => Below.refl _ _) ?how ?hfin
  case hV =>
    intro i v g W W' hg h
    match i, h with
    | 0, h => exact h
    | 1, h => exact h
    | 2, h => exact h
    | 3, h => exact h
    | 4, h => exact h
    | 5, h => exact RuleV.mono h hg
    | 6, h => exact h
    | 7, h => exact h
    | 8, h => exact h
    | 9, h => exact h
    | 10, h => exact RuleV.mono h hg
    | 11, h => exact RulesV.mono h hg
    | 12, h => exact h
    | 13, h => exact h
    | 14, h => exact h
    | 15, h => exact h
    | _ + 16, _ => trivial
  case how =>
    intro i hi
    match i, hi with
    | 0, _ =>
      refine owes_plain rfl rfl fun a W hC hold hdep => ?_
      have h1 := hold 0 (by kernel_rfl)
      go_simp
      exact ⟨_, rfl, Below.refl _ _, rfl⟩
    | 1, _ =>
      refine owes_plain rfl rfl fun a W hC hold hdep => ?_
      obtain ⟨_, (h1 : _ = Value.int _ _)⟩ := hdep 0 4 (by kernel_rfl)
      go_simp
      exact ⟨_, rfl, Below.refl _ _, rfl⟩
    | 2, _ =>
      refine owes_plain rfl rfl fun a W hC hold hdep => ?_
      have h1 := hold 0 (by kernel_rfl)
      go_simp
      exact ⟨_, rfl, Below.refl _ _, rfl⟩
    | 3, _ =>
      refine owes_plain rfl rfl fun a W hC hold hdep => ?_
      obtain ⟨_, (h1 : _ = Value.int _ _)⟩ := hdep 2 6 (by kernel_rfl)
      go_simp
      refine (show Calls _ _ _ _ _ from Hp.out W).mono ?_
      rintro e_ w_ ⟨rfl, hb_⟩
      exact ⟨_, rfl, hb_, rfl⟩
    | 4, _ =>
      refine owes_plain rfl rfl fun a W hC hold hdep => ?_
      have g1 := (hC.cell (p := ⟨1, 0, none⟩) (cellLt g1)).trans g1
      go_simp
      exact ⟨_, rfl, Below.refl _ _, rfl⟩
    | 5, _ =>
      refine owes_plain rfl rfl fun a W hC hold hdep => ?_
      obtain ⟨_, (h1 : _ = Value.bool _)⟩ := hdep 3 7 (by kernel_rfl)
      obtain ⟨_, (h2 : _ = errV _)⟩ := hdep 4 8 (by kernel_rfl)
      go_simp
      refine (must_rule p (some (S 1)) W).mono ?_
      rintro e_ w_ ⟨v, rfl, hr_, hb_⟩
      exact ⟨_, rfl, hb_, hr_⟩
    | 6, _ =>
      refine owes_plain rfl rfl fun a W hC hold hdep => ?_
      have h1 := hold 0 (by kernel_rfl)
      go_simp
      exact ⟨_, rfl, Below.refl _ _, rfl⟩
    | 7, _ =>
      refine owes_plain rfl rfl fun a W hC hold hdep => ?_
      obtain ⟨_, (h1 : _ = Value.int _ _)⟩ := hdep 6 10 (by kernel_rfl)
      go_simp
      exact ⟨_, rfl, Below.refl _ _, rfl⟩
    | 8, _ =>
      refine owes_plain rfl rfl fun a W hC hold hdep => ?_
      obtain ⟨_, (h1 : _ = Value.int _ _)⟩ := hdep 7 11 (by kernel_rfl)
      clear hdep hold
      go_simp
      refine ⟨_, rfl, Below.refl _ _, ?_⟩
      show Value.bool _ = Value.bool q
      rw [Hq.out]
      rfl
    | 9, _ =>
      refine owes_plain rfl rfl fun a W hC hold hdep => ?_
      have g2 := (hC.cell (p := ⟨2, 0, none⟩) (cellLt g2)).trans g2
      go_simp
      exact ⟨_, rfl, Below.refl _ _, rfl⟩
    | 10, _ =>
      refine owes_plain rfl rfl fun a W hC hold hdep => ?_
      obtain ⟨_, (h1 : _ = Value.bool _)⟩ := hdep 8 12 (by kernel_rfl)
      obtain ⟨_, (h2 : _ = errV _)⟩ := hdep 9 13 (by kernel_rfl)
      go_simp
      refine (must_rule q (some (S 2)) W).mono ?_
      rintro e_ w_ ⟨v, rfl, hr_, hb_⟩
      exact ⟨_, rfl, hb_, hr_⟩
    | 11, _ =>
      refine owes_plain rfl rfl fun a W hC hold hdep => ?_
      obtain ⟨_, (h1 : RuleV p (some (S 1)) _ W)⟩ := hdep 5 9 (by kernel_rfl)
      obtain ⟨_, (h2 : RuleV q (some (S 2)) _ W)⟩ := hdep 10 14 (by kernel_rfl)
      obtain ⟨b1, c1, h1e, h1b, h1c⟩ := h1
      obtain ⟨b2, c2, h2e, h2b, h2c⟩ := h2
      clear hdep hold
      go_simp
      have hA := (Below.refl W.heap.size W).alloc (Nat.le_refl _) (.cells #[.func (.func 180) #[] #[.pointer (some ⟨b1, 0, none⟩), .pointer (some ⟨c1, 0, none⟩)], .func (.func 180) #[] #[.pointer (some ⟨b2, 0, none⟩), .pointer (some ⟨c2, 0, none⟩)]] 151)
      refine ⟨_, rfl, hA, W.heap.size, 2, rfl, rfl, by simp, fun i x hx => ?_⟩
      match i, hx with
      | 0, hx => cases hx; exact ⟨_, by simp, b1, c1, rfl, (hA.cell (p := ⟨b1, 0, none⟩) (cellLt h1b)).trans h1b, (hA.cell (p := ⟨c1, 0, none⟩) (cellLt h1c)).trans h1c⟩
      | 1, hx => cases hx; exact ⟨_, by simp, b2, c2, rfl, (hA.cell (p := ⟨b2, 0, none⟩) (cellLt h2b)).trans h2b, (hA.cell (p := ⟨c2, 0, none⟩) (cellLt h2c)).trans h2c⟩
      | _ + 2, hx => simp at hx
    | 12, _ =>
      refine owes_plain rfl rfl fun a W hC hold hdep => ?_
      obtain ⟨_, (h1 : RulesV [(p, some (S 1)), (q, some (S 2))] _ W)⟩ := hdep 11 15 (by kernel_rfl)
      have hf := first_rules [(p, some (S 1)), (q, some (S 2))] _ W (by simp) h1
      rw [HE.out.1] at hf
      obtain ⟨blk, k, h1e, h1r⟩ := h1
      clear h1r
      rw [h1e] at hf
      replace hf := hide hf
      clear hdep hold
      go_simp
      refine Calls.mono hf.out ?_
      rintro e_ w_ ⟨rfl, hb_⟩
      exact ⟨_, rfl, hb_, rfl⟩
    | 13, _ =>
      refine owes_plain rfl rfl fun a W hC hold hdep => ?_
      obtain ⟨_, (h1 : _ = Value.int _ _)⟩ := hdep 1 5 (by kernel_rfl)
      obtain ⟨_, (h2 : _ = errV _)⟩ := hdep 12 16 (by kernel_rfl)
      go_simp
      refine (told_calls S (IntKind.i64.wrap (n.tdiv 1000)) E W (H.out.mono hC) HE.out.2).mono ?_
      rintro e_ w_ ⟨rfl, rfl⟩
      exact ⟨_, rfl, Below.refl _ _, rfl⟩
    | 14, _ =>
      refine owes_plain rfl rfl fun a W hC hold hdep => ?_
      obtain ⟨_, (h1 : _ = Value.tuple _)⟩ := hdep 13 17 (by kernel_rfl)
      go_simp
      exact ⟨_, rfl, Below.refl _ _, rfl⟩
    | 15, _ =>
      refine owes_plain rfl rfl fun a W hC hold hdep => ?_
      obtain ⟨_, (h1 : _ = Value.tuple _)⟩ := hdep 13 17 (by kernel_rfl)
      go_simp
      exact ⟨_, rfl, Below.refl _ _, rfl⟩
    | k + 16, hk => exact absurd hk (by omega)
  case hfin =>
    intro f W hC hold hval
    have v14 : f 18 = Value.int _ _ := hval 14 _ (by omega) rfl
    have v15 : f 19 = Value.int _ _ := hval 15 _ (by omega) rfl
    clear hval hold
    simp only [List.drop_succ_cons, List.drop_zero, List.size_toArray, List.length_cons, List.length_nil, Nat.reduceAdd, List.range, List.range.loop, List.map_cons, List.map_nil]
    go_wp2_with fail
    go_ret2
    exact ⟨by rw [Hs.out]; simp [v14, v15], hC⟩
end Go.Proofs.YtllfaffbaijgfaaGreatDoor
