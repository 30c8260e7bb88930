/-
  Lemmas: PgKs.
-/
import Derived.Maps.AppendAt
import Derived.Maps.OwnIn
import Derived.Test.YtpccbmechgkogaaGreatDoorProg
import Derived.Test.YtpccbmechgkogaaGreatDoorV0
import Derived.Test.YtpccbmechgkogaaGreatDoorZ00
import Derived.Test.YtpccbmechgkogaaGreatDoorZ01
import Derived.Test.YtpccbmechgkogaaGreatDoorZ02
import Derived.Test.YtpccbmechgkogaaGreatDoorZ03
import Derived.Test.YtpccbmechgkogaaGreatDoorZ39
set_option linter.unusedVariables false
set_option linter.unusedSimpArgs false
namespace Go.Proofs.YtpccbmechgkogaaGreatDoor.PgKs
open Go.RowKit Go.Shelf Go.Proofs.YtpccbmechgkogaaGreatDoor.P Go.Proofs.YtpccbmechgkogaaGreatDoorW.PrintWords Go.Proofs.YtpccbmechgkogaaGreatDoorW.PrintLast Go.Proofs.YtpccbmechgkogaaGreatDoorW.PrintMore Go.Proofs.YtpccbmechgkogaaGreatDoor.PureKit Go.Proofs.YtpccbmechgkogaaGreatDoor.PgSpec Go.Proofs.YtpccbmechgkogaaGreatDoor.PgIt Go.Proofs.YtpccbmechgkogaaGreatDoor.PgA
attribute [local go_sem] Oper.semAt_some
theorem info9b : (Tryz.prog.info? 9).map (fun i => (i.zero, i.size, i.bytes)) = some (some (.string ⟨#[]⟩), 1, 16) := by kernel_rfl
theorem keeps_below {A B : World} (h : Below A.heap.size A B) : Keeps A B := ⟨h.size, fun g cs hg => h.block g (blk_lt hg)⟩
def laid (w : World) (v : Value) : World := ((w.alloc (.cells #[v] 37)).alloc (.cells #[.string no] 9)).alloc (.cells #[.string no] 9)
theorem things_calls (v : Value) (w : World) (hv : v.oneCell' = true) :
  Calls Tryz.prog 36 #[v, .string no, .string no] w fun e w' => e = .returned (.func (.func 79) #[] #[.pointer (some ⟨w.heap.size, 0, none⟩), .pointer (some ⟨w.heap.size + 1, 0, none⟩), .pointer (some ⟨w.heap.size + 2, 0, none⟩)]) ∧ w' = laid w v := by
 go_enter Tryz.func36, Tryz.ntmps36
 go_wp2
 go_ret
 exact ⟨rfl, rfl⟩
theorem things_stops (m : Nat) (b : Nat) (A : Option Addr) (c : Nat) (l : List E) (w : World) (hm : 1 ≤ m)
  (hbl : w.cell? ⟨b, 0, none⟩ = some (.slice A l.length c)) (hbp : w.cell? ⟨b + 1, 0, none⟩ = some (.string no)) (hbd : w.cell? ⟨b + 2, 0, none⟩ = some (.string no))
  (hr : Kd.C k79 w A l.length l) (hn : ∀ x ∈ l, x.f1 ≠ []) (hlen : l.length ≤ 100) (hkey : ∀ x ∈ l, Name.keyB x.f0 = true) (hrise : IdxLaws.Rise l) :
  SeqStopsK Fence.wide m Tryz.prog 79 #[.pointer (some ⟨b, 0, none⟩), .pointer (some ⟨b + 1, 0, none⟩), .pointer (some ⟨b + 2, 0, none⟩)]
   (fun x : ByteArray => #[Value.agg #[.string x, .bool false]]) Keeps (fun ys => ys = kl l) (fun p => p <+: kl l) (kl l).length w := fun lk J Jx W hW hJa _ hY h0 =>
 callsIn_wide.2 (it_calls (m - 1) b (b + 1) (b + 2) A c l lk J Jx W hJa (fun p x W1 hj hl => hY p x W1 hj (by unfold kl; simpa using hl))
  (pw_cell_below hW hbl) (pw_cell_below hW hbp) (pw_cell_below hW hbd) (Kd.C_below hr hW) hn hlen hkey hrise h0)
def lastOf (v : List ByteArray) : ByteArray := v.getLast?.getD ⟨#[]⟩
theorem last_snoc (v : List ByteArray) (x : ByteArray) : lastOf (v ++ [x]) = x := by simp [lastOf]
structure KInv (base B8 B9 B10 B12 : Nat) (after : ByteArray) (m : Int) (v0 : Value) (ks : List ByteArray) (last : ByteArray) (W : World) : Prop where
 c8 : W.heap[B8]? = some (Obj.cells #[.string after] 9 (0, 0))
 c9 : W.heap[B9]? = some (Obj.cells #[.int .i64 m] 3 (0, 0))
 c10 : W.heap[B10]? = some (Obj.cells #[.slice none 0 0, .slice none 0 0, .bool false, .string (⟨#[]⟩ : ByteArray)] 43 (0, 0))
 c12 : W.heap[B12]? = some (Obj.cells #[v0, .slice none 0 0, .bool false, .string last] 43 (0, 0))
 o0 : W.ownsRow base 9 1 v0 ks.length (ks.map Value.string)
 b8 : B8 < base
 b9 : B9 < base
 b10 : B10 < base
 b12 : B12 < base
 n89 : B8 ≠ B9
 n812 : B8 ≠ B12
 n910 : B9 ≠ B10
 n912 : B9 ≠ B12
 n1012 : B10 ≠ B12
 hb : base ≤ W.heap.size
theorem own_ge {W : World} {base : Nat} {e size n : Nat} {v : Value} {xs : List Value} (h : W.ownsRow base e size v n xs) : ∀ k, v.ownBlock = some k → base ≤ k ∧ k < W.heap.size ∧ ∃ cur, W.heap[k]? = some (Obj.cells cur e (0, 0)) := by
 intro k hk
 rcases h.2 with ⟨rfl, _⟩ | ⟨g, cap, cur, rfl, hb, hg, _⟩
 ·simp [Value.ownBlock] at hk
 ·obtain rfl : g = k := by simpa [Value.ownBlock] using hk
  exact ⟨hb, blk_lt hg, cur, hg⟩
section
variable {base B8 B9 B10 B12 : Nat} {after : ByteArray} {m : Int} {v0 : Value} {ks : List ByteArray} {last : ByteArray} {W W' : World}
theorem KInv.move (h : KInv base B8 B9 B10 B12 after m v0 ks last W) {row : Option Nat} (hg : W.grownBy W' row) (hrow : ∀ r, row = some r → r ≠ B8 ∧ r ≠ B9 ∧ r ≠ B10 ∧ r ≠ B12 ∧ v0.ownBlock ≠ some r) : KInv base B8 B9 B10 B12 after m v0 ks last W' := by
 have hne : ∀ B, (∀ r, row = some r → r ≠ B) → some B ≠ row := fun B h e => h B e.symm rfl
 have hk : ∀ v : Value, (∀ r, row = some r → v.ownBlock ≠ some r) → v.ownBlock = none ∨ v.ownBlock ≠ row := fun v h => by
  cases hr : row with
  | none => cases hv : v.ownBlock <;> simp
  | some r => exact .inr (h r hr)
 exact ⟨blk_grown h.c8 hg (hne _ fun r e => (hrow r e).1), blk_grown h.c9 hg (hne _ fun r e => (hrow r e).2.1), blk_grown h.c10 hg (hne _ fun r e => (hrow r e).2.2.1), blk_grown h.c12 hg (hne _ fun r e => (hrow r e).2.2.2.1),
  h.o0.kept hg (hk _ fun r e => (hrow r e).2.2.2.2), h.b8, h.b9, h.b10, h.b12, h.n89, h.n812, h.n910, h.n912, h.n1012, Nat.le_trans h.hb hg.size⟩
theorem KInv.alloc (h : KInv base B8 B9 B10 B12 after m v0 ks last W) (o : Obj) : KInv base B8 B9 B10 B12 after m v0 ks last (W.alloc o) := h.move (World.grownBy_alloc W o none) (fun r e => by cases e)
theorem KInv.turn (h : KInv base B8 B9 B10 B12 after m v0 ks last W) {row : Option Nat} (hg : W.grownBy W' row) (hrow : ∀ r, row = some r → ∃ o : Obj, W.heap[r]? = some o ∧ o.isCells = false) : KInv base B8 B9 B10 B12 after m v0 ks last W' := by
 refine h.move hg fun r e => ?_
 obtain ⟨o, ho, hc⟩ := hrow r e
 have hx : ∀ (B : Nat) (cs : Array Value) (t : TypeId), W.heap[B]? = some (Obj.cells cs t (0, 0)) → r ≠ B := by
  rintro B cs t hB rfl
  rw [hB] at ho
  cases ho
  simp [Obj.isCells] at hc
 refine ⟨hx _ _ _ h.c8, hx _ _ _ h.c9, hx _ _ _ h.c10, hx _ _ _ h.c12, fun hv => ?_⟩
 obtain ⟨_, _, cur, hcur⟩ := own_ge h.o0 r hv
 exact hx _ _ _ hcur rfl
theorem KInv.own_set (h : KInv base B8 B9 B10 B12 after m v0 ks last W) {B : Nat} (hB : B < base) (j : Nat) (u : Value) {v : Value} {n : Nat} {xs : List Value} (ho : W.ownsRow base 9 1 v n xs) : (W.setCell ⟨B, j, none⟩ u).ownsRow base 9 1 v n xs := by
 refine ho.kept (row := some B) ⟨rfl, rfl, rfl, by simp, fun k _ hk => Below.heap_setCell _ _ _ _ (fun e => hk (by rw [e]))⟩ ?_
 refine .inr fun e => ?_
 have := (own_ge ho B e).1
 omega
theorem KInv.set9 (h : KInv base B8 B9 B10 B12 after m v0 ks last W) (m' : Int) : KInv base B8 B9 B10 B12 after m' v0 ks last (W.setCell ⟨B9, 0, none⟩ (.int .i64 m')) :=
 ⟨blk_far h.c8 (p := ⟨B9, 0, none⟩) h.n89 _, blk_set h.c9 0 _, blk_far h.c10 (p := ⟨B9, 0, none⟩) h.n910.symm _, blk_far h.c12 (p := ⟨B9, 0, none⟩) h.n912.symm _, h.own_set h.b9 _ _ h.o0, h.b8, h.b9, h.b10, h.b12, h.n89, h.n812, h.n910, h.n912, h.n1012, by simpa using h.hb⟩
theorem KInv.setLast (h : KInv base B8 B9 B10 B12 after m v0 ks last W) (s : ByteArray) : KInv base B8 B9 B10 B12 after m v0 ks s (W.setCell ⟨B12, 3, none⟩ (.string s)) :=
 ⟨blk_far h.c8 (p := ⟨B12, 3, none⟩) h.n812 _, blk_far h.c9 (p := ⟨B12, 3, none⟩) h.n912 _, blk_far h.c10 (p := ⟨B12, 3, none⟩) h.n1012 _, blk_set h.c12 3 _, h.own_set h.b12 _ _ h.o0, h.b8, h.b9, h.b10, h.b12, h.n89, h.n812, h.n910, h.n912, h.n1012, by simpa using h.hb⟩
theorem KInv.addKey (h : KInv base B8 B9 B10 B12 after m v0 ks last W) {tmp : Obj} {w1 : World} {v' : Value} {s : ByteArray} (hown : w1.ownsRow base 9 1 v' (ks.length + 1) (ks.map Value.string ++ [.string s])) (hg : (W.alloc tmp).grownBy w1 v0.ownBlock) (hat : v'.ownBlock = v0.ownBlock ∨ v'.ownBlock = some (W.alloc tmp).heap.size) :
  KInv base B8 B9 B10 B12 after m v' (ks ++ [s]) last (w1.setCell ⟨B12, 0, none⟩ v') := by
 have ha := h.alloc tmp
 have hlt : ∀ B, B < base → some B ≠ v0.ownBlock := fun B hB e => by have := (own_ge h.o0 B e.symm).1; omega
 have c8 := blk_grown ha.c8 hg (hlt _ h.b8)
 have c9 := blk_grown ha.c9 hg (hlt _ h.b9)
 have c10 := blk_grown ha.c10 hg (hlt _ h.b10)
 have c12 := blk_grown ha.c12 hg (hlt _ h.b12)
 have own_set : ∀ {v : Value} {n : Nat} {xs : List Value}, w1.ownsRow base 9 1 v n xs → (w1.setCell ⟨B12, 0, none⟩ v').ownsRow base 9 1 v n xs := fun ho => by
  refine ho.kept (row := some B12) ⟨rfl, rfl, rfl, by simp, fun k _ hk => Below.heap_setCell _ _ _ _ (fun e => hk (by rw [e]))⟩ (.inr fun e => ?_)
  have := (own_ge ho B12 e).1
  have := h.b12
  omega
 have hsz := hg.size
 simp only [World.size_alloc] at hsz
 refine ⟨blk_far c8 (p := ⟨B12, 0, none⟩) h.n812 _, blk_far c9 (p := ⟨B12, 0, none⟩) h.n912 _, blk_far c10 (p := ⟨B12, 0, none⟩) h.n1012 _, blk_set c12 0 _, ?_, h.b8, h.b9, h.b10, h.b12, h.n89, h.n812, h.n910, h.n912, h.n1012, by have := h.hb; simp; omega⟩
 rw [List.length_append, List.map_append]
 exact own_set hown
end
def start (w : World) (after : ByteArray) (most : Int) : World := ((w.alloc (Obj.cells #[.string after] 9)).alloc (Obj.cells #[.int .i64 most] 3)).alloc (Obj.cells #[.slice none 0 0, .slice none 0 0, .bool false, .string (⟨#[]⟩ : ByteArray)] 43)
theorem start_below (w : World) (after : ByteArray) (most : Int) : Below w.heap.size w (start w after most) := below_alloc (below_alloc (below_alloc (Below.refl _ _) _) _) _
theorem start_size (w : World) (after : ByteArray) (most : Int) : (start w after most).heap.size = w.heap.size + 3 := by simp [start]
theorem start_8 (w : World) (after : ByteArray) (most : Int) : (start w after most).heap[w.heap.size]? = some (Obj.cells #[.string after] 9 (0, 0)) := (((Boxed.new w 9 (.string after)).alloc _).alloc _)
theorem start_9 (w : World) (after : ByteArray) (most : Int) : (start w after most).heap[w.heap.size + 1]? = some (Obj.cells #[.int .i64 most] 3 (0, 0)) := by
 have h := (Boxed.new (w.alloc (Obj.cells #[.string after] 9)) 3 (.int .i64 most)).alloc (Obj.cells #[.slice none 0 0, .slice none 0 0, .bool false, .string (⟨#[]⟩ : ByteArray)] 43)
 rw [World.size_alloc] at h
 exact h
theorem start_10 (w : World) (after : ByteArray) (most : Int) : (start w after most).heap[w.heap.size + 1 + 1]? = some (Obj.cells #[.slice none 0 0, .slice none 0 0, .bool false, .string (⟨#[]⟩ : ByteArray)] 43 (0, 0)) := by
 have h := blk_new ((w.alloc (Obj.cells #[.string after] 9)).alloc (Obj.cells #[.int .i64 most] 3)) (Obj.cells #[.slice none 0 0, .slice none 0 0, .bool false, .string (⟨#[]⟩ : ByteArray)] 43)
 rw [World.size_alloc, World.size_alloc] at h
 exact h
theorem info29 : (Tryz.prog.info? 43).map (·.size) = some 4 := by kernel_rfl
theorem laid_1 (w2 : World) (cs : Array Value) (t : TypeId) (v : Value) : Boxed (laid (w2.alloc (Obj.cells cs t)) v) (w2.heap.size + 1) 37 v := by
 have h := ((Boxed.new (w2.alloc (Obj.cells cs t)) 37 v).alloc (.cells #[.string no] 9)).alloc (.cells #[.string no] 9)
 rw [World.size_alloc] at h
 exact h
theorem laid_2 (w2 : World) (cs : Array Value) (t : TypeId) (v : Value) : Boxed (laid (w2.alloc (Obj.cells cs t)) v) (w2.heap.size + 1 + 1) 9 (.string no) := by
 have h := (Boxed.new ((w2.alloc (Obj.cells cs t)).alloc (.cells #[v] 37)) 9 (.string no)).alloc (.cells #[.string no] 9)
 rw [World.size_alloc, World.size_alloc] at h
 exact h
theorem laid_3 (w2 : World) (cs : Array Value) (t : TypeId) (v : Value) : Boxed (laid (w2.alloc (Obj.cells cs t)) v) (w2.heap.size + 1 + 2) 9 (.string no) := by
 have h := Boxed.new (((w2.alloc (Obj.cells cs t)).alloc (.cells #[v] 37)).alloc (.cells #[.string no] 9)) 9 (.string no)
 rw [World.size_alloc, World.size_alloc, World.size_alloc] at h
 exact h
theorem laid_below (w2 : World) (cs : Array Value) (t : TypeId) (v : Value) : Below w2.heap.size w2 (laid (w2.alloc (Obj.cells cs t)) v) := below_alloc (below_alloc (below_alloc (below_alloc (Below.refl _ _) _) _) _) _
theorem laid_0 (w2 : World) (cs : Array Value) (t : TypeId) (v : Value) : (laid (w2.alloc (Obj.cells cs t)) v).heap[w2.heap.size]? = some (Obj.cells cs t (0, 0)) := by
 have h := blk_below (blk_new w2 (Obj.cells cs t)) (below_alloc (below_alloc (below_alloc (Below.refl _ _) (.cells #[v] 37)) (.cells #[.string no] 9)) (.cells #[.string no] 9))
 exact h
theorem laid_size (w2 : World) (cs : Array Value) (t : TypeId) (v : Value) : (laid (w2.alloc (Obj.cells cs t)) v).heap.size = w2.heap.size + 4 := by simp [laid]
structure Moved (n₀ : Nat) (W W' : World) : Prop where
 o : KeepsOthers W W'
 k : Keeps W W'
 b : Below n₀ W W'
theorem Moved.refl (n₀ : Nat) (W : World) : Moved n₀ W W := ⟨KeepsOthers.refl _, Keeps.refl _, Below.refl _ _⟩
theorem Moved.trans {n₀ : Nat} {A B C : World} (h : Moved n₀ A B) (k : Moved n₀ B C) : Moved n₀ A C := ⟨h.o.trans k.o, h.k.trans k.k, h.b.trans k.b⟩
theorem Moved.set {n₀ : Nat} {W : World} {B j : Nat} {u : Value} {cs : Array Value} {t : TypeId} (hb : W.heap[B]? = some (Obj.cells cs t (0, 0))) (ht : t ≠ 86) (hB : n₀ ≤ B) : Moved n₀ W (W.setCell ⟨B, j, none⟩ u) := by
 refine ⟨KeepsOthers.setCell _ _ _, ⟨by simp, fun g cs' hg => ?_⟩, (Below.refl n₀ W).setCell (p := ⟨B, j, none⟩) hB u⟩
 refine Below.heap_setCell _ _ _ _ ?_
 rintro rfl
 rw [hb] at hg
 injection hg with hg
 injection hg with _ hg _
 exact ht hg
theorem Moved.alloc {n₀ : Nat} {W : World} (h : n₀ ≤ W.heap.size) (o : Obj) : Moved n₀ W (W.alloc o) := ⟨KeepsOthers.alloc _ _, keeps_below (below_alloc (Below.refl _ _) o), (Below.refl n₀ W).alloc h o⟩
theorem Moved.grown {n₀ base : Nat} {W w1 : World} {v : Value} {n : Nat} {xs : List Value} (ho : W.ownsRow base 9 1 v n xs) (hg : W.grownBy w1 v.ownBlock) (hb : n₀ ≤ base) (hs : n₀ ≤ W.heap.size) : Moved n₀ W w1 := by
 refine ⟨KeepsOthers.of_grownBy hg (fun j o e hj => ?_), ⟨hg.size, fun g cs hgg => ?_⟩, (Below.refl n₀ W).grown hg hs (fun k e => Nat.le_trans hb (own_ge ho k e).1)⟩
 ·obtain ⟨_, _, cur, hc⟩ := own_ge ho j e
  rw [hc] at hj
  cases hj
  rfl
 ·refine hg.block g (blk_lt hgg) (fun e => ?_)
  obtain ⟨_, _, cur, hc⟩ := own_ge ho g e.symm
  rw [hc] at hgg
  injection hgg with hgg
  injection hgg with _ hgg _
  exact absurd hgg (by decide)
section
variable {base B8 B9 B10 B12 : Nat} {after : ByteArray} {m : Int} {v0 : Value} {ks : List ByteArray} {last : ByteArray} {W : World}
theorem out0 (h : KInv base B8 B9 B10 B12 after m v0 ks last W) {B : Nat} (hB : B < base) : some B ≠ v0.ownBlock := fun e => by have := (own_ge h.o0 B e.symm).1; omega
end
def Fin (w : World) (ts : List ByteArray) (e : Ending) (w' : World) : Prop := ∃ v0, e = .returned (.tuple #[.agg #[v0, .slice none 0 0, .bool false, .string (lastOf ts)], .int .i64 0]) ∧ w'.ownsRow w.heap.size 9 1 v0 ts.length (ts.map Value.string) ∧ Below w.heap.size w w'
def IP (w w2 : World) (p : List ByteArray) (W : World) : Prop := ∃ v0, KInv (w2.heap.size + 4) w.heap.size (w.heap.size + 1) (w.heap.size + 1 + 1) w2.heap.size no (1000 - (p.length : Int)) v0 p (lastOf p) W ∧ Below w.heap.size w W
theorem fin_ok {w w2 W : World} {after : ByteArray} {m : Int} {v0 : Value} {ks : List ByteArray} {last : ByteArray} (hK : KInv (w2.heap.size + 4) w.heap.size (w.heap.size + 1) (w.heap.size + 1 + 1) w2.heap.size after m v0 ks last W) (hw : w.heap.size + 3 ≤ w2.heap.size) (hB : Below w.heap.size w W)
  (D : Nat) (hD : w2.heap.size + 4 ≤ D) (hDf : W.heap[D]? = some (.deferred (some []))) (o' : Obj) (W4 : World)
  (h4 : W4 = (((W.setCell ⟨w.heap.size + 1 + 1, 0, none⟩ v0).setCell ⟨w.heap.size + 1 + 1, 1, none⟩ (.slice none 0 0)).setCell ⟨w.heap.size + 1 + 1, 2, none⟩ (.bool false)).setCell ⟨w.heap.size + 1 + 1, 3, none⟩ (.string last)) :
  W4.heap[D]? = some (.deferred (some [])) ∧ (W4.putObj D o').heap[w.heap.size + 1 + 1]? = some (Obj.cells #[v0, .slice none 0 0, .bool false, .string last] 43 (0, 0)) ∧ (W4.putObj D o').ownsRow w.heap.size 9 1 v0 ks.length (ks.map Value.string) ∧ Below w.heap.size w (W4.putObj D o') := by
 have hb : w.heap.size ≤ w.heap.size + 1 + 1 := by omega
 have hlt : w.heap.size + 1 + 1 < w2.heap.size + 4 := by omega
 have hDn : D ≠ w.heap.size + 1 + 1 := by omega
 have hd : W4.heap[D]? = some (.deferred (some [])) := by
  rw [h4, Below.heap_setCell _ _ _ _ hDn, Below.heap_setCell _ _ _ _ hDn, Below.heap_setCell _ _ _ _ hDn, Below.heap_setCell _ _ _ _ hDn]
  exact hDf
 have hr : W4.heap[w.heap.size + 1 + 1]? = some (Obj.cells #[v0, .slice none 0 0, .bool false, .string last] 43 (0, 0)) := by
  rw [h4]
  exact blk_set (blk_set (blk_set (blk_set hK.c10 0 _) 1 _) 2 _) 3 _
 have ho : ∀ {v : Value} {n : Nat} {xs : List Value}, W.ownsRow (w2.heap.size + 4) 9 1 v n xs → W4.ownsRow (w2.heap.size + 4) 9 1 v n xs := fun h => by
  rw [h4]
  exact ownsRow_setCell_below (ownsRow_setCell_below (ownsRow_setCell_below (ownsRow_setCell_below h (a := ⟨w.heap.size + 1 + 1, 0, none⟩) hlt _) (a := ⟨w.heap.size + 1 + 1, 1, none⟩) hlt _) (a := ⟨w.heap.size + 1 + 1, 2, none⟩) hlt _) (a := ⟨w.heap.size + 1 + 1, 3, none⟩) hlt _
 have hbb : Below w.heap.size w W4 := by
  rw [h4]
  exact (((hB.setCell (p := ⟨w.heap.size + 1 + 1, 0, none⟩) hb _).setCell (p := ⟨w.heap.size + 1 + 1, 1, none⟩) hb _).setCell (p := ⟨w.heap.size + 1 + 1, 2, none⟩) hb _).setCell (p := ⟨w.heap.size + 1 + 1, 3, none⟩) hb _
 exact ⟨hd, (World.putObj_heap_other hDn.symm).trans hr, own_less (ownsRow_putObj (ho hK.o0) o' hd rfl) (by omega), hbb.trans (belowK_b (w := w) (Nat.le_refl _) W4 D _ o' (by omega) hd rfl rfl)⟩
theorem own_slice {W : World} {base : Nat} {e size n : Nat} {v : Value} {xs : List Value} (h : W.ownsRow base e size v n xs) : ∃ A m c, v = .slice A m c := by
 rcases h.2 with ⟨rfl, _⟩ | ⟨g, cap, cur, rfl, _⟩
 ·exact ⟨_, _, _, rfl⟩
 ·exact ⟨_, _, _, rfl⟩
set_option maxRecDepth 100000 in
set_option maxHeartbeats 8000000 in
theorem keys_any (A : Option Addr) (c : Nat) (l : List E) (w : World) (hr : Kd.C k79 w A l.length l) (hi : IdxSpec.indexB l = true) :
  Calls Tryz.prog 7 #[.slice A l.length c, .string no, .string no, .string no, .int .i64 1000] w (Fin w (kl l)) := by
 have hgood := fun W (hW : Below w.heap.size w W) => good_any A c l W (Kd.C_below hr hW) hi
 obtain ⟨h60, hok, hrise⟩ := (IdxLaws.index_iff l).1 hi
 have hn : ∀ x ∈ l, x.f1 ≠ [] := fun x hx e => by
  have := hok x hx
  simp [IdxLaws.okE, e] at this
 have hkey : ∀ x ∈ l, Name.keyB x.f0 = true := fun x hx => by
  have := hok x hx
  simp only [IdxLaws.okE, Bool.and_eq_true] at this
  exact this.1.1
 have htl : (kl l).length ≤ l.length := by unfold kl; simpa using tl_len l
 have hdel := fun W => NameW.delim_any no W
 rw [show NameW.delimB no = true by decide] at hdel
 clear hok hi
 have hu29 := Tryz.underlying43
 obtain ⟨i0, hi, hz0, hz1, hz2⟩ := info_parts info9b
 refine (callsIn_wide (n := 9)).1 ?_
 refine callsIn_of_wp_marks Tryz.func7 rfl trivial ?_ rfl
 simp only [Tryz.ntmps7, List.size_toArray, List.length_cons, List.length_nil, Nat.reduceAdd, Nat.reduceSub, Array.replicate_succ, Array.replicate_zero, List.push_toArray, List.append_toArray, List.nil_append, List.cons_append]
 gi_wp2_with (first | (refine ⟨trivial, ?_⟩; gi_at_call 34; refine (callsIn_wide.2 (hgood _ (start_below ..))).mono ?_; rintro e w1 ⟨rfl, hb⟩) | (refine ⟨trivial, ?_⟩; gi_at_call 35; refine (callsIn_wide.2 (hdel w1)).mono ?_; rintro e w2 ⟨rfl, hb2⟩) | (refine ⟨trivial, ?_⟩; gi_at_call 36; refine (callsIn_wide.2 (things_calls (.slice A l.length c) _ rfl)).mono ?_; rintro e w3 ⟨rfl, rfl⟩))
 have hb12 : Below (start w no 1000).heap.size (start w no 1000) w2 := below_step hb hb2
 have hBl := laid_below w2 #[.slice none 0 0, .slice none 0 0, .bool false, .string (⟨#[]⟩ : ByteArray)] 43 (.slice A l.length c)
 have hB0 : Below w.heap.size w (laid (w2.alloc (Obj.cells #[.slice none 0 0, .slice none 0 0, .bool false, .string (⟨#[]⟩ : ByteArray)] 43)) (.slice A l.length c)) := below_step (below_step (start_below w no 1000) hb12) hBl
 have hw2 := hb12.size
 rw [start_size] at hw2
 have hsz : (laid (w2.alloc (Obj.cells #[.slice none 0 0, .slice none 0 0, .bool false, .string (⟨#[]⟩ : ByteArray)] 43)) (.slice A l.length c)).heap.size = w2.heap.size + 4 := laid_size ..
 have b1 := laid_1 w2 #[.slice none 0 0, .slice none 0 0, .bool false, .string (⟨#[]⟩ : ByteArray)] 43 (.slice A l.length c)
 have b2 := laid_2 w2 #[.slice none 0 0, .slice none 0 0, .bool false, .string (⟨#[]⟩ : ByteArray)] 43 (.slice A l.length c)
 have b3 := laid_3 w2 #[.slice none 0 0, .slice none 0 0, .bool false, .string (⟨#[]⟩ : ByteArray)] 43 (.slice A l.length c)
 have hK0 : KInv (w2.heap.size + 4) w.heap.size (w.heap.size + 1) (w.heap.size + 1 + 1) w2.heap.size no 1000 (.slice none 0 0) [] ⟨#[]⟩ (laid (w2.alloc (Obj.cells #[.slice none 0 0, .slice none 0 0, .bool false, .string (⟨#[]⟩ : ByteArray)] 43)) (.slice A l.length c)) :=
  ⟨blk_below (blk_below (start_8 w no 1000) hb12) hBl, blk_below (blk_below (start_9 w no 1000) hb12) hBl, blk_below (blk_below (start_10 w no 1000) hb12) hBl, laid_0 .., World.ownsRow_nil _ _ _ _, by omega, by omega, by omega, by omega, by omega, by omega, by omega, by omega, by omega, by omega⟩
 generalize laid (w2.alloc (Obj.cells #[.slice none 0 0, .slice none 0 0, .bool false, .string (⟨#[]⟩ : ByteArray)] 43)) (.slice A l.length c) = W0 at *
 refine wpIn_rangeFunc_ownH (F := Fence.wide) (n := 9) rfl (by omega) (gf := 79) (lb := #[.pointer (some ⟨w2.heap.size + 1, 0, none⟩), .pointer (some ⟨w2.heap.size + 1 + 1, 0, none⟩), .pointer (some ⟨w2.heap.size + 1 + 2, 0, none⟩)]) rfl trivial (enters_of Tryz.func79 (by kernel_rfl) rfl)
  (things_stops 8 (w2.heap.size + 1) A c l W0 (by omega) b1.cell b2.cell b3.cell (Kd.C_below hr hB0) hn (by omega) hkey hrise) Keeps.trans (fun W l o o' a b c d => keeps_b (w := W0) W l o o' a b c d) (Below.refl _ _) (fun _ => rfl)
  (IP w w2) (fun _ _ _ => False)
  (fun p X Y row hs hg hr => by
   obtain ⟨v0, h1, h3⟩ := hs
   exact ⟨v0, h1.turn hg (fun r e => (hr r e).2), h3.grown hg h3.size (fun k e => Nat.le_trans hB0.size (hr k e).1)⟩)
  (fun cd p X Y row hs hg hr => hs.elim)
  (by unfold IP; exact ⟨_, by simpa [lastOf] using hK0, hB0⟩)
  (fun x a' W => ∃ Bx, W.heap[Bx]? = some (Obj.cells #[.string x, .bool false] 86 (0, 0)) ∧ a' = { tmps := #[.slice A l.length c, .string no, .string no, .string no, .int .i64 1000, undef, undef, undef, .pointer (some ⟨w.heap.size, 0, none⟩), .pointer (some ⟨w.heap.size + 1, 0, none⟩), .pointer (some ⟨w.heap.size + 1 + 1, 0, none⟩), .int .i64 0, .pointer (some ⟨w2.heap.size, 0, none⟩), .pointer (some ⟨Bx, 0, none⟩), .slice A l.length c, .string no, .string no, .int .i64 1000, .bool true, .bool false, .bool false, .string no, .bool true, .bool false, .bool false, undef, .agg #[.slice none 0 0, .slice none 0 0, .bool false, .string (⟨#[]⟩ : ByteArray)], .slice A l.length c, .string no, .string no, .func (.func 79) #[] #[.pointer (some ⟨w2.heap.size + 1, 0, none⟩), .pointer (some ⟨w2.heap.size + 1 + 1, 0, none⟩), .pointer (some ⟨w2.heap.size + 1 + 2, 0, none⟩)], .agg #[.string x, .bool false], undef, undef, undef, undef, undef, undef, undef, undef, undef, undef, undef, undef, undef, undef, undef, undef, undef, undef, undef, undef, undef, undef, undef, undef, undef, undef, undef, undef, undef, undef, undef, undef, undef], defers := [] })
  (fun x a' _ X Y row hs hg hr => by obtain ⟨Bx, h2, h3⟩ := hs; exact ⟨Bx, (hg.block Bx (blk_lt h2) (fun e' => by obtain ⟨_, o, ho, hc⟩ := hr Bx e'.symm; rw [h2] at ho; cases ho; cases hc)).trans h2, h3⟩)
  ?assign ?body ?done ?stop
 case assign =>
  rintro lk p x W K ⟨v0, hK, hB⟩ hKK
  gi_wp2
  have hbw := below_alloc (Below.refl W.heap.size W) (Obj.cells #[.string x, .bool false] 86)
  exact hKK _ _ ((KeepsOthers.alloc _ _).from _) (keeps_below hbw) (by unfold IP; exact ⟨v0, hK.alloc _, below_step hB hbw⟩) ⟨W.heap.size, blk_new W _, rfl⟩
 case body =>
  rintro lk p s a' W hl ⟨r, hr'⟩ ⟨v0, hK, hB⟩ ⟨Bx, hBx, rfl⟩ hlt
  have hpl : p.length < 60 := by omega
  have e8 : W.cell? ⟨w.heap.size, 0, none⟩ = some (.string no) := (blk_cell hK.c8 0).trans rfl
  have x0 : W.cell? ⟨Bx, 0, none⟩ = some (.string s) := (blk_cell hBx 0).trans rfl
  have x1 : W.cell? ⟨Bx, 1, none⟩ = some (.bool false) := (blk_cell hBx 1).trans rfl
  have hA : no.toList.isEmpty = true := by rw [ByteArray.toList_eq]; rfl
  have HN : Aside0 (p.length < 60) := ⟨hpl⟩
  obtain ⟨m, hmd⟩ : ∃ m, m = 1000 - (p.length : Int) := ⟨_, rfl⟩
  have HM : Aside0 (1000 - (((p ++ [s]).length : Nat) : Int) = m - 1) := ⟨by rw [hmd]; simp; omega⟩
  rw [← hmd] at hK
  have hmp : 0 < m := by omega
  have hmm : m ≤ 1000 := by omega
  clear hmd
  have e9 : W.cell? ⟨w.heap.size + 1, 0, none⟩ = some (.int .i64 m) := (blk_cell hK.c9 0).trans rfl
  have f9 := blk_frozen hK.c9 0
  have hmz : (m == 0) = false := beq_eq_false_iff_ne.mpr (by omega)
  have K0 := hK.set9 (m - 1)
  have K1 := K0.setLast s
  have M0 := (Moved.set (n₀ := w.heap.size) (j := 0) (u := .int .i64 (m - 1)) hK.c9 (by decide) (by omega)).trans (Moved.set (n₀ := w.heap.size) (j := 3) (u := .string s) K0.c12 (by decide) (by omega))
  have M1 := M0.trans (Moved.alloc (by have := K1.hb; simp at this ⊢; omega) (Obj.cells #[.string s] 9))
  have z3 : (W.setCell ⟨w.heap.size + 1, 0, none⟩ (.int .i64 (m - 1))).cell? ⟨w2.heap.size, 3, none⟩ = some (.string (lastOf p)) := (blk_cell K0.c12 3).trans rfl
  have zf3 := blk_frozen K0.c12 3
  have hnx1 : Bx ≠ w.heap.size + 1 := blk_ne hBx hK.c9 (by decide)
  have hnx2 : Bx ≠ w2.heap.size := blk_ne hBx hK.c12 (by decide)
  have hBx1 := blk_far hBx (p := ⟨w.heap.size + 1, 0, none⟩) hnx1 (.int .i64 (m - 1))
  have hBx2 := blk_far hBx1 (p := ⟨w2.heap.size, 3, none⟩) hnx2 (.string s)
  have zx0 := (blk_cell hBx1 0).trans (rfl : _ = some (Value.string s))
  have zx1 := (blk_cell hBx2 0).trans (rfl : _ = some (Value.string s))
  have zx2 := (blk_cell hBx2 1).trans (rfl : _ = some (Value.bool false))
  have z0 := (blk_cell K1.c12 0).trans (rfl : _ = some v0)
  have z1 := (blk_cell K1.c12 1).trans (rfl : _ = some (Value.slice none 0 0))
  have hcn := cell_one_new ((W.setCell ⟨w.heap.size + 1, 0, none⟩ (.int .i64 (m - 1))).setCell ⟨w2.heap.size, 3, none⟩ (.string s)) (.string s) 9
  rw [World.size_setCell, World.size_setCell] at hcn
  gi_wp2_with (gi_at_builtin; refine wpListIn_append_own_at _ rfl _ _ 41 rfl (w2.heap.size + 4) 9 i0 (.string ⟨#[]⟩) 1 16 Tryz.underlying41 hi hz0 hz1 hz2 rfl (by decide) _ _ _ rfl (K1.o0.alloc _) ⟨_, 0, none⟩ 1 1 [.string s] rfl rfl hcn (by simp [Value.oneCell']) (by unfold maxLen; omega) (by omega) (by have := K1.hb; simp at this ⊢; omega) ?_; intro v' w3 hown' hgrow _ hat; obtain ⟨g', cap', rfl⟩ := ownsRow_succ hown'; have K2 := K1.addKey hown' hgrow hat; have c12 := blk_grown (K1.alloc _).c12 hgrow (out0 K1 (by omega)); have m2 := Moved.grown (n₀ := w.heap.size) (K1.o0.alloc _) hgrow (by omega) (by have := K1.hb; simp at this ⊢; omega); have m3 := Moved.set (n₀ := w.heap.size) (j := 0) (u := (.slice (some ⟨g', 0, none⟩) (p.length + 1) cap')) c12 (by decide) (by omega); have y0 : w3.cell? ⟨w2.heap.size, 0, none⟩ = some v0 := (blk_cell c12 0).trans rfl; have y1 := blk_frozen c12 0)
  have MM := M1.trans (m2.trans m3)
  have hM := HM.out
  have e3 : lastOf (p ++ [s]) = s := last_snoc _ _
  exact ⟨MM.o.from _, MM.k, by
   unfold IP
   exact ⟨.slice (some ⟨g', 0, none⟩) (p.length + 1) cap', by rw [hM, e3]; exact K2, hB.trans MM.b⟩⟩
 case done =>
  rintro D ys W hD rfl ⟨v0, hK, hB⟩ hDf
  obtain ⟨A0, n0, c0, rfl⟩ := own_slice hK.o0
  have y0 := (blk_cell hK.c12 0).trans (rfl : _ = some (Value.slice A0 n0 c0))
  have y1 := (blk_cell hK.c12 1).trans (rfl : _ = some (Value.slice none 0 0))
  have y2 := (blk_cell hK.c12 2).trans (rfl : _ = some (Value.bool false))
  have y3 := (blk_cell hK.c12 3).trans (rfl : _ = some (Value.string _))
  have z0 := (blk_cell hK.c10 0).trans (rfl : _ = some (Value.slice none 0 0))
  have z1 := (blk_cell hK.c10 1).trans (rfl : _ = some (Value.slice none 0 0))
  have z2 := (blk_cell hK.c10 2).trans (rfl : _ = some (Value.bool false))
  have z3 := (blk_cell hK.c10 3).trans (rfl : _ = some (Value.string (⟨#[]⟩ : ByteArray)))
  have f0 := blk_frozen hK.c10 0
  have f1 := blk_frozen hK.c10 1
  have f2 := blk_frozen hK.c10 2
  have f3 := blk_frozen hK.c10 3
  have fo := fun o' => fin_ok hK hw2 hB D (by omega) hDf o' _ rfl
  gi_wp2
  refine ⟨by simp, .inl ⟨_, _, rfl, run_takeDeferred (fo (.deferred none)).1, ?_⟩⟩
  obtain ⟨_, k1, k2, k4⟩ := fo (.deferred none)
  exact ⟨_, results_ct rfl _ _ (w.heap.size + 1 + 1) 43 #[.slice A0 n0 c0, .slice none 0 0, .bool false, .string (lastOf (kl l))] (0, 0) _ rfl k1 hu29 rfl info29, _, rfl, k2, k4⟩
 case stop =>
  rintro D cd p W hD hp h hDf
  exact h.elim
end Go.Proofs.YtpccbmechgkogaaGreatDoor.PgKs
