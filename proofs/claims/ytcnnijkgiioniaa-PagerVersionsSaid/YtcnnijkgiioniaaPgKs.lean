/-
  pager.Keys, walked.
-/
import Derived.Maps.OwnIn
import Derived.Test.YtcnnijkgiioniaaProg
import Derived.Test.YtcnnijkgiioniaaCmp
import Derived.Test.YtcnnijkgiioniaaNameW
import Derived.Test.YtcnnijkgiioniaaNmSpec
import Derived.Test.YtcnnijkgiioniaaPgIt
import Derived.Test.YtcnnijkgiioniaaPgK
import Derived.Test.YtcnnijkgiioniaaPgSpec
import Derived.Test.YtcnnijkgiioniaaPgT
import Derived.Test.YtcnnijkgiioniaaPgThings
import Derived.Test.YtcnnijkgiioniaaPx0
import Derived.Test.YtcnnijkgiioniaaPx3
import Derived.Test.YtcnnijkgiioniaaV0
set_option linter.unusedVariables false
set_option linter.unusedSimpArgs false
namespace Go.Proofs.Ytcnnijkgiioniaa.PgKs
open Go.RowKit Go.Shelf Go.Proofs.Ytcnnijkgiioniaa.P Go.Proofs.YtcnnijkgiioniaaW.PrintWords Go.Proofs.YtcnnijkgiioniaaW.PrintLast Go.Proofs.YtcnnijkgiioniaaW.PrintMore Go.Proofs.Ytcnnijkgiioniaa.PureKit Go.Proofs.Ytcnnijkgiioniaa.Name Go.Proofs.Ytcnnijkgiioniaa.NameW Go.Proofs.Ytcnnijkgiioniaa.NmSpec Go.Proofs.Ytcnnijkgiioniaa.PgSpec Go.Proofs.Ytcnnijkgiioniaa.PgIt Go.Proofs.Ytcnnijkgiioniaa.PgThings Go.Proofs.Ytcnnijkgiioniaa.PgT Go.Proofs.Ytcnnijkgiioniaa.PgK
attribute [local go_sem] Oper.semAt_some

/-- The world behind the boxes of 'after', of 'most' and of the result. -/
def start (w : World) (after : ByteArray) (most : Int) : World := ((w.alloc (Obj.cells #[.string after] 9)).alloc (Obj.cells #[.int .i64 most] 3)).alloc (Obj.cells #[.slice none 0 0, .slice none 0 0, .bool false, .string (⟨#[]⟩ : ByteArray)] 29)
theorem start_below (w : World) (after : ByteArray) (most : Int) : Below w.heap.size w (start w after most) := below_alloc (below_alloc (below_alloc (Below.refl _ _) _) _) _
theorem start_size (w : World) (after : ByteArray) (most : Int) : (start w after most).heap.size = w.heap.size + 3 := by simp [start]
theorem start_8 (w : World) (after : ByteArray) (most : Int) : (start w after most).heap[w.heap.size]? = some (Obj.cells #[.string after] 9 (0, 0)) := (((Boxed.new w 9 (.string after)).alloc _).alloc _)
theorem start_9 (w : World) (after : ByteArray) (most : Int) : (start w after most).heap[w.heap.size + 1]? = some (Obj.cells #[.int .i64 most] 3 (0, 0)) := by
  have h := (Boxed.new (w.alloc (Obj.cells #[.string after] 9)) 3 (.int .i64 most)).alloc (Obj.cells #[.slice none 0 0, .slice none 0 0, .bool false, .string (⟨#[]⟩ : ByteArray)] 29)
  rw [World.size_alloc] at h
  exact h
theorem start_10 (w : World) (after : ByteArray) (most : Int) : (start w after most).heap[w.heap.size + 1 + 1]? = some (Obj.cells #[.slice none 0 0, .slice none 0 0, .bool false, .string (⟨#[]⟩ : ByteArray)] 29 (0, 0)) := by
  have h := blk_new ((w.alloc (Obj.cells #[.string after] 9)).alloc (Obj.cells #[.int .i64 most] 3)) (Obj.cells #[.slice none 0 0, .slice none 0 0, .bool false, .string (⟨#[]⟩ : ByteArray)] 29)
  rw [World.size_alloc, World.size_alloc] at h
  exact h
theorem info29 : (Try.prog.info? 29).map (·.size) = some 4 := by kernel_rfl

set_option maxRecDepth 100000 in
set_option maxHeartbeats 8000000 in
theorem keys_no (k : Nat) (A : Option Addr) (c : Nat) (l : List E) (pre delim after : ByteArray) (most : Int) (g : Bool) (w : World) (hr : Kd.C k50 w A l.length l) (hc : l.length ≤ c)
    (hk : pager_good.f k l pre after most = some g) (hno : (g && delimB delim) = false) :
    Calls Try.prog 11 #[.slice A l.length c, .string pre, .string delim, .string after, .int .i64 most] w fun e w' => e = .returned (.tuple #[.agg #[.slice none 0 0, .slice none 0 0, .bool false, .string (⟨#[]⟩ : ByteArray)], .int .i64 1]) ∧ Below w.heap.size w w' := by
  have hu29 := Try.underlying29
  refine (callsIn_wide (n := 9)).1 ?_
  refine callsIn_of_wp_marks Try.func11 rfl trivial ?_ rfl
  simp only [Try.ntmps11, List.size_toArray, List.length_cons, List.length_nil, Nat.reduceAdd, Nat.reduceSub, Array.replicate_succ, Array.replicate_zero, List.push_toArray, List.append_toArray, List.nil_append, List.cons_append]
  have fin : ∀ w2 : World, w2.heap[w.heap.size + 1 + 1]? = some (Obj.cells #[.slice none 0 0, .slice none 0 0, .bool false, .string (⟨#[]⟩ : ByteArray)] 29 (0, 0)) → w2.cell? ⟨w.heap.size + 1 + 1, 0, none⟩ = some (.slice none 0 0) ∧ w2.cell? ⟨w.heap.size + 1 + 1, 1, none⟩ = some (.slice none 0 0) ∧ w2.cell? ⟨w.heap.size + 1 + 1, 2, none⟩ = some (.bool false) ∧ w2.cell? ⟨w.heap.size + 1 + 1, 3, none⟩ = some (.string (⟨#[]⟩ : ByteArray)) ∧
    w2.frozen? ⟨w.heap.size + 1 + 1, 0, none⟩ = false ∧ w2.frozen? ⟨w.heap.size + 1 + 1, 1, none⟩ = false ∧ w2.frozen? ⟨w.heap.size + 1 + 1, 2, none⟩ = false ∧ w2.frozen? ⟨w.heap.size + 1 + 1, 3, none⟩ = false := fun w2 h =>
    ⟨(blk_cell h 0).trans rfl, (blk_cell h 1).trans rfl, (blk_cell h 2).trans rfl, (blk_cell h 3).trans rfl, blk_frozen h 0, blk_frozen h 1, blk_frozen h 2, blk_frozen h 3⟩
  cases g with
  | false =>
    gi_wp2_with (refine ⟨trivial, ?_⟩; gi_at_call 26; refine (callsIn_wide.2 (pager_good.calls k A c l pre after most false (start w after most) (Kd.C_below hr (start_below ..)) hc hk)).mono ?_; rintro e w1 ⟨rfl, hb⟩; have h10 := blk_below (start_10 w after most) hb; obtain ⟨f0, f1, f2, f3, f4, f5, f6, f7⟩ := fin w1 h10)
    refine ⟨trivial, ?_⟩
    gi_wp2
    have hbb := below_step (start_below w after most) hb
    have hle : w.heap.size ≤ w.heap.size + 1 + 1 := by omega
    exact ⟨_, results_ct rfl _ _ (w.heap.size + 1 + 1) 29 #[.slice none 0 0, .slice none 0 0, .bool false, .string (⟨#[]⟩ : ByteArray)] (0, 0) _ rfl (blk_set (blk_set (blk_set (blk_set h10 0 _) 1 _) 2 _) 3 _) hu29 rfl info29, rfl, (((hbb.setCell (p := ⟨w.heap.size + 1 + 1, 0, none⟩) hle _).setCell (p := ⟨w.heap.size + 1 + 1, 1, none⟩) hle _).setCell (p := ⟨w.heap.size + 1 + 1, 2, none⟩) hle _).setCell (p := ⟨w.heap.size + 1 + 1, 3, none⟩) hle _⟩
  | true =>
    have hd : delimB delim = false := by simpa using hno
    gi_wp2_with (first | (refine ⟨trivial, ?_⟩; gi_at_call 26; refine (callsIn_wide.2 (pager_good.calls k A c l pre after most true (start w after most) (Kd.C_below hr (start_below ..)) hc hk)).mono ?_; rintro e w1 ⟨rfl, hb⟩) | (refine ⟨trivial, ?_⟩; gi_at_call 27; refine (callsIn_wide.2 (delim_any delim w1)).mono ?_; rintro e w2 ⟨rfl, hb2⟩; have h10 := blk_below (blk_below (start_10 w after most) hb) hb2; obtain ⟨f0, f1, f2, f3, f4, f5, f6, f7⟩ := fin w2 h10))
    have hbb := below_step (below_step (start_below w after most) hb) hb2
    have hle : w.heap.size ≤ w.heap.size + 1 + 1 := by omega
    exact ⟨_, results_ct rfl _ _ (w.heap.size + 1 + 1) 29 #[.slice none 0 0, .slice none 0 0, .bool false, .string (⟨#[]⟩ : ByteArray)] (0, 0) _ rfl (blk_set (blk_set (blk_set (blk_set h10 0 _) 1 _) 2 _) 3 _) hu29 rfl info29, rfl, (((hbb.setCell (p := ⟨w.heap.size + 1 + 1, 0, none⟩) hle _).setCell (p := ⟨w.heap.size + 1 + 1, 1, none⟩) hle _).setCell (p := ⟨w.heap.size + 1 + 1, 2, none⟩) hle _).setCell (p := ⟨w.heap.size + 1 + 1, 3, none⟩) hle _⟩

/-- The boxes that the iterator reads. -/
theorem laid_1 (w2 : World) (cs : Array Value) (t : TypeId) (v : Value) (pre delim : ByteArray) : Boxed (laid (w2.alloc (Obj.cells cs t)) v pre delim) (w2.heap.size + 1) 22 v := by
  have h := ((Boxed.new (w2.alloc (Obj.cells cs t)) 22 v).alloc (.cells #[.string pre] 9)).alloc (.cells #[.string delim] 9)
  rw [World.size_alloc] at h
  exact h
theorem laid_2 (w2 : World) (cs : Array Value) (t : TypeId) (v : Value) (pre delim : ByteArray) : Boxed (laid (w2.alloc (Obj.cells cs t)) v pre delim) (w2.heap.size + 1 + 1) 9 (.string pre) := by
  have h := (Boxed.new ((w2.alloc (Obj.cells cs t)).alloc (.cells #[v] 22)) 9 (.string pre)).alloc (.cells #[.string delim] 9)
  rw [World.size_alloc, World.size_alloc] at h
  exact h
theorem laid_3 (w2 : World) (cs : Array Value) (t : TypeId) (v : Value) (pre delim : ByteArray) : Boxed (laid (w2.alloc (Obj.cells cs t)) v pre delim) (w2.heap.size + 1 + 2) 9 (.string delim) := by
  have h := Boxed.new (((w2.alloc (Obj.cells cs t)).alloc (.cells #[v] 22)).alloc (.cells #[.string pre] 9)) 9 (.string delim)
  rw [World.size_alloc, World.size_alloc, World.size_alloc] at h
  exact h
theorem laid_below (w2 : World) (cs : Array Value) (t : TypeId) (v : Value) (pre delim : ByteArray) : Below w2.heap.size w2 (laid (w2.alloc (Obj.cells cs t)) v pre delim) := below_alloc (below_alloc (below_alloc (below_alloc (Below.refl _ _) _) _) _) _
theorem laid_0 (w2 : World) (cs : Array Value) (t : TypeId) (v : Value) (pre delim : ByteArray) : (laid (w2.alloc (Obj.cells cs t)) v pre delim).heap[w2.heap.size]? = some (Obj.cells cs t (0, 0)) := by
  have h := blk_below (blk_new w2 (Obj.cells cs t)) (below_alloc (below_alloc (below_alloc (Below.refl _ _) (.cells #[v] 22)) (.cells #[.string pre] 9)) (.cells #[.string delim] 9))
  exact h
theorem laid_size (w2 : World) (cs : Array Value) (t : TypeId) (v : Value) (pre delim : ByteArray) : (laid (w2.alloc (Obj.cells cs t)) v pre delim).heap.size = w2.heap.size + 4 := by simp [laid]

/-- The page. -/
def pageF (ts : List T) (after : ByteArray) (most : Int) : List ByteArray × List ByteArray × Bool × ByteArray :=
  (keysOf ((vis after ts).take most.toNat), groupsOf ((vis after ts).take most.toNat), decide (most < ((vis after ts).length : Int)), lastOf ((vis after ts).take most.toNat))
/-- The last steps: the page is copied into the result. -/
def Fin (w : World) (ks gs : List ByteArray) (more : Bool) (last : ByteArray) (e : Ending) (w' : World) : Prop := ∃ v0 v1, e = .returned (.tuple #[.agg #[v0, v1, .bool more, .string last], .int .i64 0]) ∧ w'.ownsRow w.heap.size 9 1 v0 ks.length (ks.map Value.string) ∧ w'.ownsRow w.heap.size 9 1 v1 gs.length (gs.map Value.string) ∧ Below w.heap.size w w' ∧ ∀ k, v0.ownBlock = some k → v1.ownBlock ≠ some k

/-- What a round of the loop leaves as it lay. -/
structure Moved (n₀ : Nat) (W W' : World) : Prop where
  o : KeepsOthers W W'
  k : Keeps W W'
  b : Below n₀ W W'
theorem Moved.refl (n₀ : Nat) (W : World) : Moved n₀ W W := ⟨KeepsOthers.refl _, Keeps.refl _, Below.refl _ _⟩
theorem Moved.trans {n₀ : Nat} {A B C : World} (h : Moved n₀ A B) (k : Moved n₀ B C) : Moved n₀ A C := ⟨h.o.trans k.o, h.k.trans k.k, h.b.trans k.b⟩
theorem Moved.set {n₀ : Nat} {W : World} {B j : Nat} {u : Value} {cs : Array Value} {t : TypeId} (hb : W.heap[B]? = some (Obj.cells cs t (0, 0))) (ht : t ≠ 72) (hB : n₀ ≤ B) : Moved n₀ W (W.setCell ⟨B, j, none⟩ u) := by
  refine ⟨KeepsOthers.setCell _ _ _, ⟨by simp, fun g cs' hg => ?_⟩, (Below.refl n₀ W).setCell (p := ⟨B, j, none⟩) hB u⟩
  refine Below.heap_setCell _ _ _ _ ?_
  rintro rfl
  rw [hb] at hg
  injection hg with hg
  injection hg with _ hg _
  exact ht hg
theorem Moved.alloc {n₀ : Nat} {W : World} (h : n₀ ≤ W.heap.size) (o : Obj) : Moved n₀ W (W.alloc o) := ⟨KeepsOthers.alloc _ _, keeps_below (below_alloc (Below.refl _ _) o), (Below.refl n₀ W).alloc h o⟩
theorem Moved.grown {n₀ base : Nat} {W w1 : World} {v : Value} {n : Nat} {xs : List Value} (ho : W.ownsRow base 9 1 v n xs) (hg : W.grownBy w1 v.ownBlock) (hb : n₀ ≤ base) (hs : n₀ ≤ W.heap.size) : Moved n₀ W w1 := by
  refine ⟨KeepsOthers.of_grownBy hg (fun j o e hj => ?_), ⟨hg.size, fun g cs hgg => ?_⟩, (Below.refl n₀ W).grown hg hs (fun k e => Nat.le_trans hb (own_ge ho k e).1)⟩
  · obtain ⟨_, _, cur, hc⟩ := own_ge ho j e
    rw [hc] at hj
    cases hj
    rfl
  · refine hg.block g (blk_lt hgg) (fun e => ?_)
    obtain ⟨_, _, cur, hc⟩ := own_ge ho g e.symm
    rw [hc] at hgg
    injection hgg with hgg
    injection hgg with _ hgg _
    exact absurd hgg (by decide)
section
variable {base B8 B9 B10 B12 : Nat} {after : ByteArray} {m : Int} {v0 v1 : Value} {ks gs : List ByteArray} {more : Bool} {last : ByteArray} {W : World}
theorem out0 (h : KInv base B8 B9 B10 B12 after m v0 v1 ks gs more last W) {B : Nat} (hB : B < base) : some B ≠ v0.ownBlock := fun e => by have := (own_ge h.o0 B e.symm).1; omega
theorem out1 (h : KInv base B8 B9 B10 B12 after m v0 v1 ks gs more last W) {B : Nat} (hB : B < base) : some B ≠ v1.ownBlock := fun e => by have := (own_ge h.o1 B e.symm).1; omega
end

/-- Between two rounds. -/
def IP (w w2 : World) (after : ByteArray) (most : Int) (p : List T) (W : World) : Prop := ∃ v0 v1, KInv (w2.heap.size + 4) w.heap.size (w.heap.size + 1) (w.heap.size + 1 + 1) w2.heap.size after (most - ((vis after p).length : Int)) v0 v1 (keysOf (vis after p)) (groupsOf (vis after p)) false (lastOf (vis after p)) W ∧ ((vis after p).length : Int) ≤ most ∧ Below w.heap.size w W
/-- A round has left by the break. -/
def IX (w w2 : World) (after : ByteArray) (most : Int) (cd : Code) (p : List T) (W : World) : Prop := cd = .exit 0 ∧ ∃ q x, p = q ++ [x] ∧ skipB after x = false ∧ ((vis after q).length : Int) = most ∧ ∃ v0 v1, KInv (w2.heap.size + 4) w.heap.size (w.heap.size + 1) (w.heap.size + 1 + 1) w2.heap.size after 0 v0 v1 (keysOf (vis after q)) (groupsOf (vis after q)) true (lastOf (vis after q)) W ∧ Below w.heap.size w W
/-- The page is copied into the result; the block of the rounds' deferred calls turns. -/
theorem fin_ok {w w2 W : World} {after : ByteArray} {m : Int} {v0 v1 : Value} {ks gs : List ByteArray} {more : Bool} {last : ByteArray} (hK : KInv (w2.heap.size + 4) w.heap.size (w.heap.size + 1) (w.heap.size + 1 + 1) w2.heap.size after m v0 v1 ks gs more last W) (hw : w.heap.size + 3 ≤ w2.heap.size) (hB : Below w.heap.size w W)
    (D : Nat) (hD : w2.heap.size + 4 ≤ D) (hDf : W.heap[D]? = some (.deferred (some []))) (o' : Obj) (W4 : World)
    (h4 : W4 = (((W.setCell ⟨w.heap.size + 1 + 1, 0, none⟩ v0).setCell ⟨w.heap.size + 1 + 1, 1, none⟩ v1).setCell ⟨w.heap.size + 1 + 1, 2, none⟩ (.bool more)).setCell ⟨w.heap.size + 1 + 1, 3, none⟩ (.string last)) :
    W4.heap[D]? = some (.deferred (some [])) ∧ (W4.putObj D o').heap[w.heap.size + 1 + 1]? = some (Obj.cells #[v0, v1, .bool more, .string last] 29 (0, 0)) ∧ (W4.putObj D o').ownsRow w.heap.size 9 1 v0 ks.length (ks.map Value.string) ∧ (W4.putObj D o').ownsRow w.heap.size 9 1 v1 gs.length (gs.map Value.string) ∧ Below w.heap.size w (W4.putObj D o') := by
  have hb : w.heap.size ≤ w.heap.size + 1 + 1 := by omega
  have hlt : w.heap.size + 1 + 1 < w2.heap.size + 4 := by omega
  have hDn : D ≠ w.heap.size + 1 + 1 := by omega
  have hd : W4.heap[D]? = some (.deferred (some [])) := by
    rw [h4, Below.heap_setCell _ _ _ _ hDn, Below.heap_setCell _ _ _ _ hDn, Below.heap_setCell _ _ _ _ hDn, Below.heap_setCell _ _ _ _ hDn]
    exact hDf
  have hr : W4.heap[w.heap.size + 1 + 1]? = some (Obj.cells #[v0, v1, .bool more, .string last] 29 (0, 0)) := by
    rw [h4]
    exact blk_set (blk_set (blk_set (blk_set hK.c10 0 _) 1 _) 2 _) 3 _
  have ho : ∀ {v : Value} {n : Nat} {xs : List Value}, W.ownsRow (w2.heap.size + 4) 9 1 v n xs → W4.ownsRow (w2.heap.size + 4) 9 1 v n xs := fun h => by
    rw [h4]
    exact ownsRow_setCell_below (ownsRow_setCell_below (ownsRow_setCell_below (ownsRow_setCell_below h (a := ⟨w.heap.size + 1 + 1, 0, none⟩) hlt _) (a := ⟨w.heap.size + 1 + 1, 1, none⟩) hlt _) (a := ⟨w.heap.size + 1 + 1, 2, none⟩) hlt _) (a := ⟨w.heap.size + 1 + 1, 3, none⟩) hlt _
  have hbb : Below w.heap.size w W4 := by
    rw [h4]
    exact (((hB.setCell (p := ⟨w.heap.size + 1 + 1, 0, none⟩) hb _).setCell (p := ⟨w.heap.size + 1 + 1, 1, none⟩) hb _).setCell (p := ⟨w.heap.size + 1 + 1, 2, none⟩) hb _).setCell (p := ⟨w.heap.size + 1 + 1, 3, none⟩) hb _
  exact ⟨hd, (World.putObj_heap_other hDn.symm).trans hr, own_less (ownsRow_putObj (ho hK.o0) o' hd rfl) (by omega), own_less (ownsRow_putObj (ho hK.o1) o' hd rfl) (by omega), hbb.trans (belowK_b (w := w) (Nat.le_refl _) W4 D _ o' (by omega) hd rfl rfl)⟩
theorem own_slice {W : World} {base : Nat} {e size n : Nat} {v : Value} {xs : List Value} (h : W.ownsRow base e size v n xs) : ∃ A m c, v = .slice A m c := by
  rcases h.2 with ⟨rfl, _⟩ | ⟨g, cap, cur, rfl, _⟩
  · exact ⟨_, _, _, rfl⟩
  · exact ⟨_, _, _, rfl⟩
theorem page_all {ts : List T} {after : ByteArray} {most : Int} (h : ((vis after ts).length : Int) ≤ most) : pageF ts after most = (keysOf (vis after ts), groupsOf (vis after ts), false, lastOf (vis after ts)) := by
  unfold pageF
  rw [List.take_of_length_le (by omega), decide_eq_false (by omega)]
theorem page_cut {ts q : List T} {x : T} {after : ByteArray} {most : Int} (h : q ++ [x] <+: ts) (hx : skipB after x = false) (hl : ((vis after q).length : Int) = most) : pageF ts after most = (keysOf (vis after q), groupsOf (vis after q), true, lastOf (vis after q)) := by
  obtain ⟨r, rfl⟩ := h
  have hv : vis after (q ++ [x] ++ r) = vis after q ++ x :: vis after r := by simp [vis, hx]
  unfold pageF
  rw [hv, ← hl, Int.toNat_natCast, List.take_left, decide_eq_true (by simp; omega)]

set_option maxRecDepth 100000 in
set_option maxHeartbeats 8000000 in
theorem keys_yes (k : Nat) (A : Option Addr) (c : Nat) (l : List E) (pre delim after : ByteArray) (most : Int) (w : World) (hr : Kd.C k50 w A l.length l) (hc : l.length ≤ c)
    (hk : pager_good.f k l pre after most = some true) (hd : delimB delim = true) (hm0 : 0 ≤ most) (hm1 : most ≤ 1000) (hn : ∀ x ∈ l, x.f1 ≠ []) (hlen : l.length ≤ 100) (hkey : ∀ x ∈ l, x.f0.size ≤ 1000) (hpre : pre.size ≤ 1000) :
    Calls Try.prog 11 #[.slice A l.length c, .string pre, .string delim, .string after, .int .i64 most] w (Fin w (pageF (thingsL pre delim l) after most).1 (pageF (thingsL pre delim l) after most).2.1 (pageF (thingsL pre delim l) after most).2.2.1 (pageF (thingsL pre delim l) after most).2.2.2) := by
  have hu29 := Try.underlying29
  obtain ⟨i0, hi, hz0, hz1, hz2⟩ := info_parts info9b
  refine (callsIn_wide (n := 9)).1 ?_
  refine callsIn_of_wp_marks Try.func11 rfl trivial ?_ rfl
  simp only [Try.ntmps11, List.size_toArray, List.length_cons, List.length_nil, Nat.reduceAdd, Nat.reduceSub, Array.replicate_succ, Array.replicate_zero, List.push_toArray, List.append_toArray, List.nil_append, List.cons_append]
  gi_wp2_with (first | (refine ⟨trivial, ?_⟩; gi_at_call 26; refine (callsIn_wide.2 (pager_good.calls k A c l pre after most true (start w after most) (Kd.C_below hr (start_below ..)) hc hk)).mono ?_; rintro e w1 ⟨rfl, hb⟩) | (refine ⟨trivial, ?_⟩; gi_at_call 27; refine (callsIn_wide.2 (delim_any delim w1)).mono ?_; rintro e w2 ⟨rfl, hb2⟩) | (refine ⟨trivial, ?_⟩; gi_at_call 28; refine (callsIn_wide.2 (things_calls (.slice A l.length c) pre delim _ rfl)).mono ?_; rintro e w3 ⟨rfl, rfl⟩))
  have hb12 : Below (start w after most).heap.size (start w after most) w2 := below_step hb hb2
  have hBl := laid_below w2 #[.slice none 0 0, .slice none 0 0, .bool false, .string (⟨#[]⟩ : ByteArray)] 29 (.slice A l.length c) pre delim
  have hB0 : Below w.heap.size w (laid (w2.alloc (Obj.cells #[.slice none 0 0, .slice none 0 0, .bool false, .string (⟨#[]⟩ : ByteArray)] 29)) (.slice A l.length c) pre delim) := below_step (below_step (start_below w after most) hb12) hBl
  have hw2 := hb12.size
  rw [start_size] at hw2
  have hsz : (laid (w2.alloc (Obj.cells #[.slice none 0 0, .slice none 0 0, .bool false, .string (⟨#[]⟩ : ByteArray)] 29)) (.slice A l.length c) pre delim).heap.size = w2.heap.size + 4 := laid_size ..
  have b1 := laid_1 w2 #[.slice none 0 0, .slice none 0 0, .bool false, .string (⟨#[]⟩ : ByteArray)] 29 (.slice A l.length c) pre delim
  have b2 := laid_2 w2 #[.slice none 0 0, .slice none 0 0, .bool false, .string (⟨#[]⟩ : ByteArray)] 29 (.slice A l.length c) pre delim
  have b3 := laid_3 w2 #[.slice none 0 0, .slice none 0 0, .bool false, .string (⟨#[]⟩ : ByteArray)] 29 (.slice A l.length c) pre delim
  have hK0 : KInv (w2.heap.size + 4) w.heap.size (w.heap.size + 1) (w.heap.size + 1 + 1) w2.heap.size after most (.slice none 0 0) (.slice none 0 0) [] [] false ⟨#[]⟩ (laid (w2.alloc (Obj.cells #[.slice none 0 0, .slice none 0 0, .bool false, .string (⟨#[]⟩ : ByteArray)] 29)) (.slice A l.length c) pre delim) :=
    ⟨blk_below (blk_below (start_8 w after most) hb12) hBl, blk_below (blk_below (start_9 w after most) hb12) hBl, blk_below (blk_below (start_10 w after most) hb12) hBl, laid_0 .., World.ownsRow_nil _ _ _ _, World.ownsRow_nil _ _ _ _, fun k e => by simp [Value.ownBlock] at e, by omega, by omega, by omega, by omega, by omega, by omega, by omega, by omega, by omega, by omega⟩
  generalize laid (w2.alloc (Obj.cells #[.slice none 0 0, .slice none 0 0, .bool false, .string (⟨#[]⟩ : ByteArray)] 29)) (.slice A l.length c) pre delim = W0 at *
  refine wpIn_rangeFunc_ownH (F := Fence.wide) (n := 9) rfl (by omega) (gf := 46) (lb := #[.pointer (some ⟨w2.heap.size + 1, 0, none⟩), .pointer (some ⟨w2.heap.size + 1 + 1, 0, none⟩), .pointer (some ⟨w2.heap.size + 1 + 2, 0, none⟩)]) rfl trivial (enters_of Try.func46 (by kernel_rfl) rfl)
    (things_stops 8 (w2.heap.size + 1) A c l pre delim W0 (by omega) b1.cell b2.cell b3.cell (Kd.C_below hr hB0) hn hlen hkey hpre) Keeps.trans (fun W l o o' a b c d => keeps_b (w := W0) W l o o' a b c d) (Below.refl _ _) (fun _ => rfl)
    (IP w w2 after most) (IX w w2 after most)
    (fun p X Y row hs hg hr => by
      obtain ⟨v0, v1, h1, h2, h3⟩ := hs
      exact ⟨v0, v1, h1.turn hg (fun r e => (hr r e).2), h2, h3.grown hg h3.size (fun k e => Nat.le_trans hB0.size (hr k e).1)⟩)
    (fun cd p X Y row hs hg hr => by
      obtain ⟨h0, q, x, hq, hx, hl, v0, v1, h1, h3⟩ := hs
      exact ⟨h0, q, x, hq, hx, hl, v0, v1, h1.turn hg (fun r e => (hr r e).2), h3.grown hg h3.size (fun k e => Nat.le_trans hB0.size (hr k e).1)⟩)
    (by unfold IP; exact ⟨_, _, by simpa [vis, keysOf, groupsOf, lastOf] using hK0, by simpa [vis] using hm0, hB0⟩)
    (fun x a' W => ∃ Bx, W.heap[Bx]? = some (Obj.cells #[.string x.f0, .bool x.f1] 72 (0, 0)) ∧ a' = { tmps := #[.slice A l.length c, .string pre, .string delim, .string after, .int .i64 most, undef, undef, undef, .pointer (some ⟨w.heap.size, 0, none⟩), .pointer (some ⟨w.heap.size + 1, 0, none⟩), .pointer (some ⟨w.heap.size + 1 + 1, 0, none⟩), .int .i64 0, .pointer (some ⟨w2.heap.size, 0, none⟩), .pointer (some ⟨Bx, 0, none⟩), .slice A l.length c, .string pre, .string after, .int .i64 most, .bool true, .bool false, .bool false, .string delim, .bool true, .bool false, .bool false, undef, .agg #[.slice none 0 0, .slice none 0 0, .bool false, .string (⟨#[]⟩ : ByteArray)], .slice A l.length c, .string pre, .string delim, .func (.func 46) #[] #[.pointer (some ⟨w2.heap.size + 1, 0, none⟩), .pointer (some ⟨w2.heap.size + 1 + 1, 0, none⟩), .pointer (some ⟨w2.heap.size + 1 + 2, 0, none⟩)], .agg #[.string x.f0, .bool x.f1], undef, undef, undef, undef, undef, undef, undef, undef, undef, undef, undef, undef, undef, undef, undef, undef, undef, undef, undef, undef, undef, undef, undef, undef, undef, undef, undef, undef, undef, undef, undef, undef, undef], defers := [] })
    (fun x a' _ X Y row hs hg hr => by obtain ⟨Bx, h2, h3⟩ := hs; exact ⟨Bx, (hg.block Bx (blk_lt h2) (fun e' => by obtain ⟨_, o, ho, hc⟩ := hr Bx e'.symm; rw [h2] at ho; cases ho; cases hc)).trans h2, h3⟩)
    ?assign ?body ?done ?stop
  case assign =>
    rintro lk p x W K ⟨v0, v1, hK, hle, hB⟩ hKK
    gi_wp2
    have hbw := below_alloc (Below.refl W.heap.size W) (Obj.cells #[.string x.f0, .bool x.f1] 72)
    exact hKK _ _ ((KeepsOthers.alloc _ _).from _) (keeps_below hbw) (by unfold IP; exact ⟨v0, v1, hK.alloc _, hle, below_step hB hbw⟩) ⟨W.heap.size, blk_new W _, rfl⟩
  case body =>
    rintro lk p ⟨s, g⟩ a' W hl ⟨r, hr'⟩ ⟨v0, v1, hK, hle, hB⟩ ⟨Bx, hBx, rfl⟩ hlt
    have e8 : W.cell? ⟨w.heap.size, 0, none⟩ = some (.string after) := (blk_cell hK.c8 0).trans rfl
    have x0 : W.cell? ⟨Bx, 0, none⟩ = some (.string s) := (blk_cell hBx 0).trans rfl
    have x1 : W.cell? ⟨Bx, 1, none⟩ = some (.bool g) := (blk_cell hBx 1).trans rfl
    by_cases hs : skipB after ⟨s, g⟩ = true
    · have hs' := hs
      unfold skipB at hs'
      simp only [Bool.and_eq_true, Bool.not_eq_true'] at hs'
      obtain ⟨hA, hL⟩ := hs'
      have hE : after.toList.isEmpty = false := by
        cases h : after.toList with
        | nil => rw [h] at hA; cases hA
        | cons => rfl
      clear hA
      have HS := Aside0.mk hs
      clear hs
      gi_wp2
      exact ⟨KeepsFrom.refl _ _, Keeps.refl _, by unfold IP; exact ⟨v0, v1, by rw [vis_skip p HS.out]; exact hK, by rw [vis_skip p HS.out]; exact hle, hB⟩⟩
    · rw [Bool.not_eq_true] at hs
      have hcase : after.toList.isEmpty = true ∨ (after.toList.isEmpty = false ∧ Op.bytesLess after.toList s.toList = true) := by
        unfold skipB at hs
        cases h1 : after.toList with
        | nil => exact .inl rfl
        | cons y z =>
          rw [h1] at hs
          exact .inr ⟨rfl, by simpa using hs⟩
      have HS := Aside0.mk hs
      have hvl : (vis after p).length ≤ 100 := Nat.le_trans (List.length_filter_le _ _) (by have := things_len pre delim l; omega)
      have hkl := keys_len (vis after p)
      have hgl := groups_len (vis after p)
      clear hs
      by_cases hm : most - ((vis after p).length : Int) = 0
      · rw [hm] at hK
        have HM := Aside0.mk hm
        clear hm
        have e9 : W.cell? ⟨w.heap.size + 1, 0, none⟩ = some (.int .i64 0) := (blk_cell hK.c9 0).trans rfl
        have e12 : W.cell? ⟨w2.heap.size, 2, none⟩ = some (.bool false) := (blk_cell hK.c12 2).trans rfl
        have f12 := blk_frozen hK.c12 2
        have m1 := Moved.set (n₀ := w.heap.size) (j := 2) (u := .bool true) hK.c12 (by decide) (by omega)
        rcases hcase with hA | ⟨hA, hL⟩
        all_goals
          gi_wp2
          exact ⟨m1.o.from _, by unfold IX; exact ⟨rfl, p, ⟨s, g⟩, rfl, HS.out, by have := HM.out; omega, v0, v1, hK.setMore, hB.trans m1.b⟩⟩
      · have hmp : 0 < most - ((vis after p).length : Int) := by omega
        have hmm : most - ((vis after p).length : Int) ≤ 1000 := by omega
        have HN : Aside0 (((vis after (p ++ [⟨s, g⟩])).length : Int) = (vis after p).length + 1) := ⟨by rw [vis_see p HS.out]; simp⟩
        have hM : most - ((vis after (p ++ [⟨s, g⟩])).length : Int) = most - ((vis after p).length : Int) - 1 := by have := HN.out; omega
        have hM2 : ((vis after (p ++ [⟨s, g⟩])).length : Int) ≤ most := by have := HN.out; omega
        have HM := Aside0.mk hM
        have HM2 := Aside0.mk hM2
        clear hM hM2 hm
        obtain ⟨m, hmd⟩ : ∃ m, m = most - ((vis after p).length : Int) := ⟨_, rfl⟩
        rw [← hmd] at hK hmp hmm HM
        clear hmd
        have e9 : W.cell? ⟨w.heap.size + 1, 0, none⟩ = some (.int .i64 m) := (blk_cell hK.c9 0).trans rfl
        have f9 := blk_frozen hK.c9 0
        have hmz : (m == 0) = false := beq_eq_false_iff_ne.mpr (by omega)
        have K0 := hK.set9 (m - 1)
        have K1 := K0.setLast s
        have M0 := (Moved.set (n₀ := w.heap.size) (j := 0) (u := .int .i64 (m - 1)) hK.c9 (by decide) (by omega)).trans (Moved.set (n₀ := w.heap.size) (j := 3) (u := .string s) K0.c12 (by decide) (by omega))
        have M1 := M0.trans (Moved.alloc (by have := K1.hb; simp at this ⊢; omega) (Obj.cells #[.string s] 9))
        have z3 : (W.setCell ⟨w.heap.size + 1, 0, none⟩ (.int .i64 (m - 1))).cell? ⟨w2.heap.size, 3, none⟩ = some (.string (lastOf (vis after p))) := (blk_cell K0.c12 3).trans rfl
        have zf3 := blk_frozen K0.c12 3
        have hnx1 : Bx ≠ w.heap.size + 1 := blk_ne hBx hK.c9 (by decide)
        have hnx2 : Bx ≠ w2.heap.size := blk_ne hBx hK.c12 (by decide)
        have hBx1 := blk_far hBx (p := ⟨w.heap.size + 1, 0, none⟩) hnx1 (.int .i64 (m - 1))
        have hBx2 := blk_far hBx1 (p := ⟨w2.heap.size, 3, none⟩) hnx2 (.string s)
        have zx0 := (blk_cell hBx1 0).trans (rfl : _ = some (Value.string s))
        have zx1 := (blk_cell hBx2 0).trans (rfl : _ = some (Value.string s))
        have zx2 := (blk_cell hBx2 1).trans (rfl : _ = some (Value.bool g))
        have z0 := (blk_cell K1.c12 0).trans (rfl : _ = some v0)
        have z1 := (blk_cell K1.c12 1).trans (rfl : _ = some v1)
        have hcn := cell_one_new ((W.setCell ⟨w.heap.size + 1, 0, none⟩ (.int .i64 (m - 1))).setCell ⟨w2.heap.size, 3, none⟩ (.string s)) (.string s) 9
        rw [World.size_setCell, World.size_setCell] at hcn
        rcases hcase with hA | ⟨hA, hL⟩
        all_goals
          cases g with
          | true =>
            gi_wp2_with (gi_at_builtin; refine wpListIn_append_own_at _ rfl _ _ 27 rfl (w2.heap.size + 4) 9 i0 (.string ⟨#[]⟩) 1 16 Try.underlying27 hi hz0 hz1 hz2 rfl (by decide) _ _ _ rfl (K1.o1.alloc _) ⟨_, 0, none⟩ 1 1 [.string s] rfl rfl hcn (by simp [Value.oneCell']) (by unfold maxLen; omega) (by omega) (by have := K1.hb; simp at this ⊢; omega) ?_; intro v' w3 hown' hgrow _ hat; obtain ⟨g', cap', rfl⟩ := ownsRow_succ hown'; have K2 := K1.addGroup hown' hgrow hat; have c12 := blk_grown (K1.alloc _).c12 hgrow (out1 K1 (by omega)); have m2 := Moved.grown (n₀ := w.heap.size) (K1.o1.alloc _) hgrow (by omega) (by have := K1.hb; simp at this ⊢; omega); have m3 := Moved.set (n₀ := w.heap.size) (j := 1) (u := (.slice (some ⟨g', 0, none⟩) ((groupsOf (vis after p)).length + 1) cap')) c12 (by decide) (by omega); have y0 : w3.cell? ⟨w2.heap.size, 1, none⟩ = some v1 := (blk_cell c12 1).trans rfl; have y1 := blk_frozen c12 1)
            have MM := M1.trans (m2.trans m3)
            have hM := HM.out
            have e1 : keysOf (vis after (p ++ [⟨s, true⟩])) = _ := (congrArg keysOf (vis_see p HS.out)).trans (keys_group _ rfl)
            have e2 : groupsOf (vis after (p ++ [⟨s, true⟩])) = _ := (congrArg groupsOf (vis_see p HS.out)).trans (groups_group _ rfl)
            have e3 : lastOf (vis after (p ++ [⟨s, true⟩])) = _ := (congrArg lastOf (vis_see p HS.out)).trans (last_snoc _ _)
            exact ⟨MM.o.from _, MM.k, by
              unfold IP
              exact ⟨v0, .slice (some ⟨g', 0, none⟩) ((groupsOf (vis after p)).length + 1) cap', by rw [hM, e1, e2, e3]; exact K2, HM2.out, hB.trans MM.b⟩⟩
          | false =>
            gi_wp2_with (gi_at_builtin; refine wpListIn_append_own_at _ rfl _ _ 27 rfl (w2.heap.size + 4) 9 i0 (.string ⟨#[]⟩) 1 16 Try.underlying27 hi hz0 hz1 hz2 rfl (by decide) _ _ _ rfl (K1.o0.alloc _) ⟨_, 0, none⟩ 1 1 [.string s] rfl rfl hcn (by simp [Value.oneCell']) (by unfold maxLen; omega) (by omega) (by have := K1.hb; simp at this ⊢; omega) ?_; intro v' w3 hown' hgrow _ hat; obtain ⟨g', cap', rfl⟩ := ownsRow_succ hown'; have K2 := K1.addKey hown' hgrow hat; have c12 := blk_grown (K1.alloc _).c12 hgrow (out0 K1 (by omega)); have m2 := Moved.grown (n₀ := w.heap.size) (K1.o0.alloc _) hgrow (by omega) (by have := K1.hb; simp at this ⊢; omega); have m3 := Moved.set (n₀ := w.heap.size) (j := 0) (u := (.slice (some ⟨g', 0, none⟩) ((keysOf (vis after p)).length + 1) cap')) c12 (by decide) (by omega); have y0 : w3.cell? ⟨w2.heap.size, 0, none⟩ = some v0 := (blk_cell c12 0).trans rfl; have y1 := blk_frozen c12 0)
            have MM := M1.trans (m2.trans m3)
            have hM := HM.out
            have e1 : keysOf (vis after (p ++ [⟨s, false⟩])) = _ := (congrArg keysOf (vis_see p HS.out)).trans (keys_key _ rfl)
            have e2 : groupsOf (vis after (p ++ [⟨s, false⟩])) = _ := (congrArg groupsOf (vis_see p HS.out)).trans (groups_key _ rfl)
            have e3 : lastOf (vis after (p ++ [⟨s, false⟩])) = _ := (congrArg lastOf (vis_see p HS.out)).trans (last_snoc _ _)
            exact ⟨MM.o.from _, MM.k, by
              unfold IP
              exact ⟨.slice (some ⟨g', 0, none⟩) ((keysOf (vis after p)).length + 1) cap', v1, by rw [hM, e1, e2, e3]; exact K2, HM2.out, hB.trans MM.b⟩⟩
  case done =>
    rintro D ys W hD rfl ⟨v0, v1, hK, hle, hB⟩ hDf
    have hpf := page_all hle
    obtain ⟨A0, n0, c0, rfl⟩ := own_slice hK.o0
    obtain ⟨A1, n1, c1, rfl⟩ := own_slice hK.o1
    have y0 := (blk_cell hK.c12 0).trans (rfl : _ = some (Value.slice A0 n0 c0))
    have y1 := (blk_cell hK.c12 1).trans (rfl : _ = some (Value.slice A1 n1 c1))
    have y2 := (blk_cell hK.c12 2).trans (rfl : _ = some (Value.bool false))
    have y3 := (blk_cell hK.c12 3).trans (rfl : _ = some (Value.string _))
    have z0 := (blk_cell hK.c10 0).trans (rfl : _ = some (Value.slice none 0 0))
    have z1 := (blk_cell hK.c10 1).trans (rfl : _ = some (Value.slice none 0 0))
    have z2 := (blk_cell hK.c10 2).trans (rfl : _ = some (Value.bool false))
    have z3 := (blk_cell hK.c10 3).trans (rfl : _ = some (Value.string (⟨#[]⟩ : ByteArray)))
    have f0 := blk_frozen hK.c10 0
    have f1 := blk_frozen hK.c10 1
    have f2 := blk_frozen hK.c10 2
    have f3 := blk_frozen hK.c10 3
    have fo := fun o' => fin_ok hK hw2 hB D (by omega) hDf o' _ rfl
    gi_wp2
    refine ⟨by simp, .inl ⟨_, _, rfl, run_takeDeferred (fo (.deferred none)).1, ?_⟩⟩
    obtain ⟨_, k1, k2, k3, k4⟩ := fo (.deferred none)
    simp only [hpf]
    exact ⟨_, results_ct rfl _ _ (w.heap.size + 1 + 1) 29 #[.slice A0 n0 c0, .slice A1 n1 c1, .bool false, .string (lastOf (vis after (thingsL pre delim l)))] (0, 0) _ rfl k1 hu29 rfl info29, _, _, rfl, k2, k3, k4, hK.ne⟩
  case stop =>
    rintro D cd p W hD hp ⟨rfl, q, x, rfl, hx, hl, v0, v1, hK, hB⟩ hDf
    have hpf := page_cut hp hx hl
    obtain ⟨A0, n0, c0, rfl⟩ := own_slice hK.o0
    obtain ⟨A1, n1, c1, rfl⟩ := own_slice hK.o1
    have y0 := (blk_cell hK.c12 0).trans (rfl : _ = some (Value.slice A0 n0 c0))
    have y1 := (blk_cell hK.c12 1).trans (rfl : _ = some (Value.slice A1 n1 c1))
    have y2 := (blk_cell hK.c12 2).trans (rfl : _ = some (Value.bool true))
    have y3 := (blk_cell hK.c12 3).trans (rfl : _ = some (Value.string _))
    have z0 := (blk_cell hK.c10 0).trans (rfl : _ = some (Value.slice none 0 0))
    have z1 := (blk_cell hK.c10 1).trans (rfl : _ = some (Value.slice none 0 0))
    have z2 := (blk_cell hK.c10 2).trans (rfl : _ = some (Value.bool false))
    have z3 := (blk_cell hK.c10 3).trans (rfl : _ = some (Value.string (⟨#[]⟩ : ByteArray)))
    have f0 := blk_frozen hK.c10 0
    have f1 := blk_frozen hK.c10 1
    have f2 := blk_frozen hK.c10 2
    have f3 := blk_frozen hK.c10 3
    have fo := fun o' => fin_ok hK hw2 hB D (by omega) hDf o' _ rfl
    gi_wp2
    refine ⟨by simp, .inl ⟨_, _, rfl, run_takeDeferred (fo (.deferred none)).1, ?_⟩⟩
    obtain ⟨_, k1, k2, k3, k4⟩ := fo (.deferred none)
    simp only [hpf]
    exact ⟨_, results_ct rfl _ _ (w.heap.size + 1 + 1) 29 #[.slice A0 n0 c0, .slice A1 n1 c1, .bool true, .string (lastOf (vis after q))] (0, 0) _ rfl k1 hu29 rfl info29, _, _, rfl, k2, k3, k4, hK.ne⟩
def keysF (k : Nat) (l : List E) (pre delim after : ByteArray) (most : Int) : Option (List ByteArray × List ByteArray × Bool × ByteArray × Int) := (pager_good.f k l pre after most).bind fun g =>
  if (g && delimB delim) = true then (if (∀ x ∈ l, x.f1 ≠ []) ∧ l.length ≤ 100 ∧ (∀ x ∈ l, x.f0.size ≤ 1000) ∧ pre.size ≤ 1000 ∧ 0 ≤ most ∧ most ≤ 1000 then some ((pageF (thingsL pre delim l) after most).1, (pageF (thingsL pre delim l) after most).2.1, (pageF (thingsL pre delim l) after most).2.2.1, (pageF (thingsL pre delim l) after most).2.2.2, 0) else none) else some ([], [], false, ⟨#[]⟩, 1)
theorem R_strings {w' : World} {b : Nat} {v : Value} {xs : List ByteArray} (ho : w'.ownsRow b 9 1 v xs.length (xs.map Value.string)) {ok : Nat → Prop} (hok : ∀ k, v.ownBlock = some k → ok k) : Kd.R Kd.string 9 w' b ok v xs := Kd.R_of_own (enc := Value.string) (xs := xs) ho hok
theorem keys_any (k : Nat) (A : Option Addr) (c : Nat) (l : List E) (pre delim after : ByteArray) (most : Int) (r1 r2 : List ByteArray) (r3 : Bool) (r4 : ByteArray) (r5 : Int) (w : World) (hr : Kd.C k50 w A l.length l) (hc : l.length ≤ c) (h : keysF k l pre delim after most = some (r1, r2, r3, r4, r5)) :
    Calls Try.prog 11 #[.slice A l.length c, .string pre, .string delim, .string after, .int .i64 most] w fun e w' => ∃ v0_ v1_ : Value, e = .returned (.tuple #[.agg #[v0_, v1_, .bool r3, .string r4], .int .i64 r5]) ∧ Kd.R Kd.string 9 w' w.heap.size (fun k_ => some k_ ≠ (v1_ : Value).ownBlock) v0_ r1 ∧ Kd.R Kd.string 9 w' w.heap.size (fun k_ => some k_ ≠ (v0_ : Value).ownBlock) v1_ r2 ∧ Below w.heap.size w w' := by
  unfold keysF at h
  obtain ⟨g, hg, h⟩ := Option.bind_eq_some_iff.mp h
  split at h
  · rename_i hgd
    simp only [Bool.and_eq_true] at hgd
    obtain ⟨rfl, hd⟩ := hgd
    split at h
    · rename_i hh
      obtain ⟨h1, h2, h3, h4, h5, h6⟩ := hh
      simp only [Option.some.injEq, Prod.mk.injEq] at h
      obtain ⟨rfl, rfl, rfl, rfl, rfl⟩ := h
      refine (keys_yes k A c l pre delim after most w hr hc hg hd h5 h6 h1 h2 h3 h4).mono ?_
      rintro e w' ⟨v0, v1, rfl, o0, o1, hb, hne⟩
      exact ⟨v0, v1, rfl, R_strings o0 (fun k hk he => hne k hk he.symm), R_strings o1 (fun k hk he => hne k he.symm hk), hb⟩
    · cases h
  · rename_i hgd
    simp only [Option.some.injEq, Prod.mk.injEq] at h
    obtain ⟨rfl, rfl, rfl, rfl, rfl⟩ := h
    refine (keys_no k A c l pre delim after most g w hr hc hg (Bool.eq_false_iff.mpr hgd)).mono ?_
    rintro e w' ⟨rfl, hb⟩
    exact ⟨_, _, rfl, Kd.R_nil _ _ _ _ _, Kd.R_nil _ _ _ _ _, hb⟩
end Go.Proofs.Ytcnnijkgiioniaa.PgKs
