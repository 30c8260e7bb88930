/-
  pager.Things.
-/
import Derived.Maps.AppendAt
import Derived.Test.YtcnnijkgiioniaaProg
import Derived.Test.YtcnnijkgiioniaaCmp
import Derived.Test.YtcnnijkgiioniaaNameW
import Derived.Test.YtcnnijkgiioniaaNmSpec
import Derived.Test.YtcnnijkgiioniaaPgIt
import Derived.Test.YtcnnijkgiioniaaPgSpec
import Derived.Test.YtcnnijkgiioniaaPgThings
import Derived.Test.YtcnnijkgiioniaaPx0
import Derived.Test.YtcnnijkgiioniaaPx3
import Derived.Test.YtcnnijkgiioniaaV0
set_option linter.unusedVariables false
set_option linter.unusedSimpArgs false
namespace Go.Proofs.Ytcnnijkgiioniaa.PgT
open Go.RowKit Go.Shelf Go.Proofs.Ytcnnijkgiioniaa.P Go.Proofs.YtcnnijkgiioniaaW.PrintWords Go.Proofs.YtcnnijkgiioniaaW.PrintLast Go.Proofs.YtcnnijkgiioniaaW.PrintMore Go.Proofs.Ytcnnijkgiioniaa.PureKit Go.Proofs.Ytcnnijkgiioniaa.Name Go.Proofs.Ytcnnijkgiioniaa.NameW Go.Proofs.Ytcnnijkgiioniaa.NmSpec Go.Proofs.Ytcnnijkgiioniaa.PgSpec Go.Proofs.Ytcnnijkgiioniaa.PgIt Go.Proofs.Ytcnnijkgiioniaa.PgThings
attribute [local go_sem] Oper.semAt_some

theorem info9b : (Try.prog.info? 9).map (fun i => (i.zero, i.size, i.bytes)) = some (some (.string ⟨#[]⟩), 1, 16) := by kernel_rfl

set_option maxRecDepth 100000 in
set_option maxHeartbeats 8000000 in
theorem things_no (k : Nat) (A : Option Addr) (c : Nat) (l : List E) (pre delim : ByteArray) (g : Bool) (w : World) (hr : Kd.C k50 w A l.length l) (hc : l.length ≤ c)
    (hk : pager_good.f k l pre ⟨#[]⟩ 0 = some g) (hno : (g && delimB delim) = false) :
    Calls Try.prog 12 #[.slice A l.length c, .string pre, .string delim] w fun e w' => e = .returned (.tuple #[.slice none 0 0, .int .i64 1]) ∧ Below w.heap.size w w' := by
  refine (callsIn_wide (n := 9)).1 ?_
  refine callsIn_of_wp_marks Try.func12 rfl trivial ?_ rfl
  simp only [Try.ntmps12, List.size_toArray, List.length_cons, List.length_nil, Nat.reduceAdd, Nat.reduceSub, Array.replicate_succ, Array.replicate_zero, List.push_toArray, List.append_toArray, List.nil_append, List.cons_append]
  cases g with
  | false =>
    gi_wp2_with (refine ⟨trivial, ?_⟩; gi_at_call 26; refine (callsIn_wide.2 (pager_good.calls k A c l pre ⟨#[]⟩ 0 false w hr hc hk)).mono ?_; rintro e w1 ⟨rfl, hb⟩)
    refine ⟨trivial, ?_⟩
    gi_wp2
    exact ⟨_, results_tmp2 rfl _ _ _, rfl, hb⟩
  | true =>
    have hd : delimB delim = false := by simpa using hno
    gi_wp2_with (first | (refine ⟨trivial, ?_⟩; gi_at_call 26; refine (callsIn_wide.2 (pager_good.calls k A c l pre ⟨#[]⟩ 0 true w hr hc hk)).mono ?_; rintro e w1 ⟨rfl, hb⟩) | (refine ⟨trivial, ?_⟩; gi_at_call 27; refine (callsIn_wide.2 (delim_any delim w1)).mono ?_; rintro e w2 ⟨rfl, hb2⟩))
    exact ⟨_, results_tmp2 rfl _ _ _, rfl, below_step hb hb2⟩
theorem keeps_below {A B : World} (h : Below A.heap.size A B) : Keeps A B := ⟨h.size, fun g cs hg => h.block g (blk_lt hg)⟩
/-- An append into a box's row keeps the blocks of things. -/
theorem keeps_appended {W w1 : World} {n₀ B : Nat} {t e : TypeId} {size : Nat} {v v' : Value} {k : Nat} {xs : List Value} {tmp : Obj}
    (hv : Boxed W B t v) (ht : t ≠ 72) (hrow : W.ownsRow n₀ e size v k xs) (he : e ≠ 72) (hgrow : (W.alloc tmp).grownBy w1 v.ownBlock) : Keeps W (w1.setCell ⟨B, 0, none⟩ v') := by
  refine ⟨?_, fun g cs hg => ?_⟩
  · have h1 := hgrow.size
    simp at h1 ⊢
    omega
  · have hgB : g ≠ B := by
      rintro rfl
      rw [show W.heap[g]? = _ from hv] at hg
      injection hg with hg
      injection hg with _ hg _
      exact ht hg
    have hgr : some g ≠ v.ownBlock := by
      intro he'
      rcases hrow.2 with ⟨rfl, _⟩ | ⟨g', cap, cur, rfl, _, hgb, _⟩
      · simp [Value.ownBlock] at he'
      · obtain rfl : g = g' := by simpa [Value.ownBlock] using he'
        rw [hgb] at hg
        injection hg with hg
        injection hg with _ hg _
        exact he hg
    have hlt := blk_lt hg
    rw [Below.heap_setCell _ _ _ _ hgB, hgrow.block g (by simp; omega) hgr]
    exact Below.heap_alloc _ _ _ hlt

set_option maxRecDepth 100000 in
set_option maxHeartbeats 8000000 in
theorem things_yes (k : Nat) (A : Option Addr) (c : Nat) (l : List E) (pre delim : ByteArray) (w : World) (hr : Kd.C k50 w A l.length l) (hc : l.length ≤ c)
    (hk : pager_good.f k l pre ⟨#[]⟩ 0 = some true) (hd : delimB delim = true) (hn : ∀ x ∈ l, x.f1 ≠ []) (hlen : l.length ≤ 100) (hkey : ∀ x ∈ l, x.f0.size ≤ 1000) (hpre : pre.size ≤ 1000) :
    Calls Try.prog 12 #[.slice A l.length c, .string pre, .string delim] w fun e w' => ∃ v, e = .returned (.tuple #[v, .int .i64 0]) ∧ w'.ownsRow w.heap.size 9 1 v (thingsL pre delim l).length ((thingsL pre delim l).map fun x => .string x.f0) ∧ Below w.heap.size w w' := by
  obtain ⟨i0, hi, hz0, hz1, hz2⟩ := info_parts info9b
  refine (callsIn_wide (n := 9)).1 ?_
  refine callsIn_of_wp_marks Try.func12 rfl trivial ?_ rfl
  simp only [Try.ntmps12, List.size_toArray, List.length_cons, List.length_nil, Nat.reduceAdd, Nat.reduceSub, Array.replicate_succ, Array.replicate_zero, List.push_toArray, List.append_toArray, List.nil_append, List.cons_append]
  gi_wp2_with (first | (refine ⟨trivial, ?_⟩; gi_at_call 26; refine (callsIn_wide.2 (pager_good.calls k A c l pre ⟨#[]⟩ 0 true w hr hc hk)).mono ?_; rintro e w1 ⟨rfl, hb⟩) | (refine ⟨trivial, ?_⟩; gi_at_call 27; refine (callsIn_wide.2 (delim_any delim w1)).mono ?_; rintro e w2 ⟨rfl, hb2⟩) | (refine ⟨trivial, ?_⟩; gi_at_call 28; refine (callsIn_wide.2 (things_calls (.slice A l.length c) pre delim _ rfl)).mono ?_; rintro e w3 ⟨rfl, rfl⟩))
  have bO : Boxed (laid (w2.alloc (Obj.cells #[.slice none 0 0] 27)) (.slice A l.length c) pre delim) w2.heap.size 27 (.slice none 0 0) := (((Boxed.new w2 27 (.slice none 0 0)).alloc _).alloc _).alloc _
  have b1 : Boxed (laid (w2.alloc (Obj.cells #[.slice none 0 0] 27)) (.slice A l.length c) pre delim) (w2.heap.size + 1) 22 (.slice A l.length c) := by
    have h := ((Boxed.new (w2.alloc (Obj.cells #[.slice none 0 0] 27)) 22 (.slice A l.length c)).alloc (.cells #[.string pre] 9)).alloc (.cells #[.string delim] 9)
    rw [World.size_alloc] at h
    exact h
  have b2 : Boxed (laid (w2.alloc (Obj.cells #[.slice none 0 0] 27)) (.slice A l.length c) pre delim) (w2.heap.size + 1 + 1) 9 (.string pre) := by
    have h := (Boxed.new ((w2.alloc (Obj.cells #[.slice none 0 0] 27)).alloc (.cells #[.slice A l.length c] 22)) 9 (.string pre)).alloc (.cells #[.string delim] 9)
    rw [World.size_alloc, World.size_alloc] at h
    exact h
  have b3 : Boxed (laid (w2.alloc (Obj.cells #[.slice none 0 0] 27)) (.slice A l.length c) pre delim) (w2.heap.size + 1 + 2) 9 (.string delim) := by
    have h := Boxed.new (((w2.alloc (Obj.cells #[.slice none 0 0] 27)).alloc (.cells #[.slice A l.length c] 22)).alloc (.cells #[.string pre] 9)) 9 (.string delim)
    rw [World.size_alloc, World.size_alloc, World.size_alloc] at h
    exact h
  have hb22 := below_step hb hb2
  have hB0 : Below w.heap.size w (laid (w2.alloc (Obj.cells #[.slice none 0 0] 27)) (.slice A l.length c) pre delim) := below_alloc (below_alloc (below_alloc (below_alloc hb22 _) _) _) _
  have hsz : (laid (w2.alloc (Obj.cells #[.slice none 0 0] 27)) (.slice A l.length c) pre delim).heap.size = w2.heap.size + 4 := by simp [laid]
  have hww : w.heap.size ≤ w2.heap.size := hb22.size
  generalize laid (w2.alloc (Obj.cells #[.slice none 0 0] 27)) (.slice A l.length c) pre delim = W0 at *
  refine wpIn_rangeFunc_ownH (F := Fence.wide) (n := 9) rfl (by omega) (gf := 46) (lb := #[.pointer (some ⟨w2.heap.size + 1, 0, none⟩), .pointer (some ⟨w2.heap.size + 1 + 1, 0, none⟩), .pointer (some ⟨w2.heap.size + 1 + 2, 0, none⟩)]) rfl trivial (enters_of Try.func46 (by kernel_rfl) rfl)
    (things_stops 8 (w2.heap.size + 1) A c l pre delim W0 (by omega) b1.cell b2.cell b3.cell (Kd.C_below hr hB0) hn hlen hkey hpre) Keeps.trans (fun W l o o' a b c d => keeps_b (w := W0) W l o o' a b c d) (Below.refl _ _) (fun _ => rfl)
    (fun (p : List T) W => (∃ v, Boxed W w2.heap.size 27 v ∧ W.ownsRow w.heap.size 9 1 v p.length (p.map fun x => .string x.f0) ∧ True) ∧ Below w.heap.size w W)
    (fun _ _ _ => False)
    (OwnFrom.and (Own.from (holdsRow_own w.heap.size w2.heap.size 27 9 1 (fun p : List T => p.length) (fun p => p.map fun x => .string x.f0) (fun _ _ => True)) _) (ownFrom_below (Nat.le_refl _) (by omega)))
    (fun _ _ _ _ _ hs _ _ => hs)
    ⟨⟨_, bO, World.ownsRow_nil _ _ _ _, trivial⟩, hB0⟩
    (fun x a' W => ∃ Bx, W.heap[Bx]? = some (Obj.cells #[.string x.f0, .bool x.f1] 72 (0, 0)) ∧ a' = { tmps := #[.slice A l.length c, .string pre, .string delim, undef, undef, undef, .slice none 0 0, .int .i64 0, .pointer (some ⟨w2.heap.size, 0, none⟩), .pointer (some ⟨Bx, 0, none⟩), .slice A l.length c, .string pre, .bool true, .bool false, .bool false, .string delim, .bool true, .bool false, .bool false, .slice A l.length c, .string pre, .string delim, .func (.func 46) #[] #[.pointer (some ⟨w2.heap.size + 1, 0, none⟩), .pointer (some ⟨w2.heap.size + 1 + 1, 0, none⟩), .pointer (some ⟨w2.heap.size + 1 + 2, 0, none⟩)], .agg #[.string x.f0, .bool x.f1], undef, undef, undef, undef, undef, undef], defers := [] })
    (fun x a' _ X Y row hs hg hr => by obtain ⟨Bx, h2, h3⟩ := hs; exact ⟨Bx, (hg.block Bx (blk_lt h2) (fun e' => by obtain ⟨_, o, ho, hc⟩ := hr Bx e'.symm; rw [h2] at ho; cases ho; cases hc)).trans h2, h3⟩)
    ?assign ?body ?done ?stop
  case assign =>
    rintro lk p x W K ⟨⟨v, hv, hrow, _⟩, hB⟩ hK
    gi_wp2
    have hbw := below_alloc (Below.refl W.heap.size W) (Obj.cells #[.string x.f0, .bool x.f1] 72)
    exact hK _ _ ((KeepsOthers.alloc _ _).from _) (keeps_below hbw) ⟨⟨v, hv.alloc _, hrow.alloc _, trivial⟩, below_step hB hbw⟩ ⟨W.heap.size, blk_new W _, rfl⟩
  case body =>
    rintro lk p x a' W hl ⟨r, hr⟩ ⟨⟨v, hv, hrow, _⟩, hB⟩ ⟨Bx, hBx, rfl⟩ hlt
    have hc := hv.cell
    have hx0 : W.cell? ⟨Bx, 0, none⟩ = some (.string x.f0) := (blk_cell hBx 0).trans rfl
    have htl := things_len pre delim l
    gi_wp2_with (gi_at_builtin; refine wpListIn_append_own _ rfl _ _ 27 rfl w.heap.size 9 i0 (.string ⟨#[]⟩) 1 16 Try.underlying27 hi hz0 hz1 hz2 rfl (by decide) _ _ _ rfl (hrow.alloc _) ⟨W.heap.size, 0, none⟩ 1 1 [.string x.f0] rfl rfl (cell_one_new _ _ _) (by simp [Value.oneCell']) (by unfold maxLen; omega) (by omega) (by have := hB.size; simp; omega) ?_; intro v' w1 hown' hgrow _; obtain ⟨g', cap', rfl⟩ := ownsRow_succ hown'; have hk3 := keeps_appended (v' := .slice (some ⟨g', 0, none⟩) (p.length + 1) cap') hv (by decide) hrow (by decide) hgrow; obtain ⟨hv1, hv2, hr2, hk2, hb2⟩ := hv.appended (by decide) hrow hB.size hww hown' hgrow; have hc1 := hv1.cell; have hf1 := hv1.frozen)
    exact ⟨hk2.from _, hk3, ⟨_, hv2, by simpa using hr2, trivial⟩, hB.trans hb2⟩
  case done =>
    rintro D ys W hD rfl ⟨⟨v, hv, hrow, _⟩, hB⟩ hK
    have hc := hv.cell
    gi_wp2
    refine ⟨by simp, .inl ⟨_, _, rfl, run_takeDeferred hK, ?_⟩⟩
    exact ⟨_, results_tmp2 rfl _ _ _, v, rfl, ownsRow_putObj hrow _ hK rfl, hB.trans (belowK_b (w := w) (Nat.le_refl _) W D _ _ (by omega) hK rfl rfl)⟩
  case stop =>
    rintro D c pre W _ _ h _
    exact h.elim
def thingsF (k : Nat) (l : List E) (pre delim : ByteArray) : Option (List ByteArray × Int) := (pager_good.f k l pre ⟨#[]⟩ 0).bind fun g =>
  if (g && delimB delim) = true then (if (∀ x ∈ l, x.f1 ≠ []) ∧ l.length ≤ 100 ∧ (∀ x ∈ l, x.f0.size ≤ 1000) ∧ pre.size ≤ 1000 then some ((thingsL pre delim l).map (fun x => x.f0), 0) else none) else some ([], 1)
theorem things_any (k : Nat) (A : Option Addr) (c : Nat) (l : List E) (pre delim : ByteArray) (r1 : List ByteArray) (r2 : Int) (w : World) (hr : Kd.C k50 w A l.length l) (hc : l.length ≤ c) (h : thingsF k l pre delim = some (r1, r2)) :
    Calls Try.prog 12 #[.slice A l.length c, .string pre, .string delim] w fun e w' => ∃ v0_ : Value, e = .returned (.tuple #[v0_, .int .i64 r2]) ∧ Kd.R Kd.string 9 w' w.heap.size (fun _ => True) v0_ r1 ∧ Below w.heap.size w w' := by
  unfold thingsF at h
  obtain ⟨g, hg, h⟩ := Option.bind_eq_some_iff.mp h
  split at h
  · rename_i hgd
    simp only [Bool.and_eq_true] at hgd
    obtain ⟨rfl, hd⟩ := hgd
    split at h
    · rename_i hh
      obtain ⟨h1, h2, h3, h4⟩ := hh
      simp only [Option.some.injEq, Prod.mk.injEq] at h
      obtain ⟨rfl, rfl⟩ := h
      refine (things_yes k A c l pre delim w hr hc hg hd h1 h2 h3 h4).mono ?_
      rintro e w' ⟨v, rfl, ho, hb⟩
      refine ⟨v, rfl, ?_, hb⟩
      refine Kd.R_of_own (enc := Value.string) (xs := (thingsL pre delim l).map (fun x => x.f0)) ?_ (fun _ _ => trivial)
      rw [List.length_map, encs, List.map_map]
      exact ho
    · cases h
  · rename_i hgd
    simp only [Option.some.injEq, Prod.mk.injEq] at h
    obtain ⟨rfl, rfl⟩ := h
    refine (things_no k A c l pre delim g w hr hc hg (Bool.eq_false_iff.mpr hgd)).mono ?_
    rintro e w' ⟨rfl, hb⟩
    exact ⟨_, rfl, Kd.R_nil _ _ _ _ _, hb⟩
end Go.Proofs.Ytcnnijkgiioniaa.PgT
