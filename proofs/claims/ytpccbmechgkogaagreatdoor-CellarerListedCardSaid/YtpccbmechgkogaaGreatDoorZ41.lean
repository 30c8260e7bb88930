/-
  Lemmas: PgMapS, PgRw, RefA, RefB.
-/
import Derived.Maps.OwnSet
import Derived.Carry
import Derived.Test.YtpccbmechgkogaaGreatDoorProg
import Derived.LoopTactic
import Derived.Outline
import Derived.Deep.Upon
import Derived.BigRegion
import Derived.Test.YtpccbmechgkogaaGreatDoorV0
import Derived.Test.YtpccbmechgkogaaGreatDoorZ00
import Derived.Test.YtpccbmechgkogaaGreatDoorZ01
import Derived.Test.YtpccbmechgkogaaGreatDoorZ02
import Derived.Test.YtpccbmechgkogaaGreatDoorZ03
import Derived.Test.YtpccbmechgkogaaGreatDoorZ39
set_option linter.unusedVariables false
set_option linter.unusedSimpArgs false
namespace Go.Proofs.YtpccbmechgkogaaGreatDoor.PgMapS
open Go.RowKit Go.Maps Go.WideMaps Go.ChangeMaps Go.Proofs.YtpccbmechgkogaaGreatDoorW.PrintWords Go.Proofs.YtpccbmechgkogaaGreatDoorW.PrintMore
abbrev D := DataW Unit
theorem law : Keyed Tryz.prog 9 := string_keyed Tryz.underlying9
theorem zero_b (w : World) : (zeroValue 4).run Tryz.prog w = .ok (.bool false) w := by kernel_rfl
theorem map_is : Tryz.prog.underlying 50 = some (.map 9 4) := by kernel_rfl
theorem bool_is : Tryz.prog.underlying 4 = some .bool := by kernel_rfl
theorem bool_inv {v : Value} {b : Bool} {ps : List MemPlace} (h : plainElem (H := Unit) Tryz.prog 4 v = some (.lit (.bool b), ps)) : v = .bool b := by
 unfold plainElem at h
 rw [bool_is] at h
 cases v <;> simp at h
 rw [h.1]
def MS (w : World) (base : Nat) (v : Value) (xs : List ByteArray) : Prop := ∃ (mb n : Nat) (d : D), v = .map (some mb) ∧ base ≤ mb ∧ w.ownsMap Tryz.prog 9 (plainElem Tryz.prog 4) mb n d ∧ n = xs.length ∧
 ∀ s : ByteArray, d.atKey (.string s.data.toList) (.lit (.bool false)) = .lit (.bool (xs.any fun y => y.toList == s.toList))
section
variable {w w1 : World} {base mb : Nat} {v : Value} {xs : List ByteArray}
theorem made (w : World) {base : Nat} (hb : base ≤ w.heap.size) : MS (w.alloc (.map #[] 0)) base (.map (some w.heap.size)) [] :=
 ⟨w.heap.size, 0, _, rfl, hb, World.ownsMap_made _ _ _ _, rfl, fun s => rfl⟩
theorem MS_heap (h : MS w base v xs) (hm : ∀ b, v = .map (some b) → w1.heap[b]? = w.heap[b]?) : MS w1 base v xs := by
 obtain ⟨mb, n, d, h1, h2, ⟨es, clock, hb, h3⟩, h4⟩ := h
 exact ⟨mb, n, d, h1, h2, ⟨es, clock, (hm mb h1).trans hb, h3⟩, h4⟩
theorem MS_lt (h : MS w base v xs) : ∀ b, v = .map (some b) → b < w.heap.size := by
 obtain ⟨mb, n, d, h1, h2, h3, h4⟩ := h
 rintro b rfl
 cases h1
 exact h3.lt
theorem MS_below (h : MS w base v xs) (hb : Below w.heap.size w w1) : MS w1 base v xs := MS_heap h fun b hv => hb.block b (MS_lt h b hv)
theorem MS_alloc (h : MS w base v xs) (o : Obj) : MS (w.alloc o) base v xs := MS_below h (below_alloc (Below.refl _ _) o)
theorem MS_drew (h : MS w base v xs) : MS w.drew base v xs := MS_below h (below_drew (Below.refl _ _))
def Turn (w w1 : World) (base : Nat) : Prop := ∃ mb, w.grownBy w1 (some mb) ∧ base ≤ mb ∧ (∃ es c, w.heap[mb]? = some (.map es c))
theorem below_turn {w0 : World} (h : Below w0.heap.size w0 w) (ht : Turn w w1 w0.heap.size) : Below w0.heap.size w0 w1 := by
 obtain ⟨mb, hg, hb, _⟩ := ht
 exact h.grown hg h.size (fun j hj => by cases hj; exact hb)
end
theorem update {W : World} {ops : Array Oper} {rest : List Oper} {o : Oper} {a : Act} {Q : Exit → Act → World → Prop} {base : Nat} {u : Value} {xs : List ByteArray} {s : ByteArray} (hg : o.guard = none) (m x v : Operand) (hop : o.op = Op.mapUpdate 50 m x v)
  (hm : a.eval m = u) (hMS : MS W base u xs) (hx : a.eval x = .string s) (hs : s.size ≤ maxLen) (hv : a.eval v = .bool true) (hl : xs.length < maxLen)
  (hK : ∀ w', MS w' base u (xs ++ [s]) → Turn W w' base → wpList Tryz.prog ops Q rest (a.put o.dst undef) w') : wpList Tryz.prog ops Q (o :: rest) a W := by
 obtain ⟨mb, n, d, rfl, hb, hown, rfl, hat⟩ := hMS
 refine wpList_mapUpdate_own W hg m x v 50 hop 9 4 law map_is _ mb _ d hm hown hl _ _ _ hx hv (keyOf_string_mk Tryz.underlying9 hs) _ [] (plainElem_bool bool_is true) fun w' ho hgr => hK w' ?_ ?_
 ·refine ⟨mb, xs.length + 1, _, rfl, hb, ho, by simp, fun t => ?_⟩
  by_cases he : s.toList = t.toList
  ·have he' : s.data.toList = t.data.toList := by rw [← ByteArray.toList_eq, ← ByteArray.toList_eq]; exact he
   rw [← he', atKey_put_same hown.isMap (by trivial)]
   simp [he]
  ·have he' : t.data.toList ≠ s.data.toList := fun e => he (by rw [ByteArray.toList_eq, ByteArray.toList_eq]; exact e.symm)
   rw [atKey_put_other (by simpa using he'), hat]
   simp [he]
 ·obtain ⟨es, clock, hq, _⟩ := hown
  exact ⟨mb, hgr, hb, es, clock, hq⟩
def hasAt (xs : List ByteArray) (s : ByteArray) : Option Bool := if s.size ≤ 1000000 then some (xs.any fun y => y.toList == s.toList) else none
theorem look {W : World} {ops : Array Oper} {rest : List Oper} {o : Oper} {a : Act} {Q : Exit → Act → World → Prop} {base : Nat} {u : Value} {xs : List ByteArray} {s : ByteArray} {b : Bool} (hg : o.guard = none) (m x : Operand) (hop : o.op = Op.lookup 50 m x false)
  (hm : a.eval m = u) (hMS : MS W base u xs) (hx : a.eval x = .string s) (h : hasAt xs s = some b)
  (hK : wpList Tryz.prog ops Q rest (a.put o.dst (.bool b)) W) : wpList Tryz.prog ops Q (o :: rest) a W := by
 obtain ⟨mb, n, d, rfl, hb, hown, rfl, hat⟩ := hMS
 unfold hasAt at h
 split at h
 ·rename_i hs
  obtain rfl := Option.some.inj h
  refine wpList_plain hg fun K' hK' => ?_
  obtain ⟨v, ps, hrun, hv⟩ := hown.lookup law map_is (zero_b W) (plainElem_bool bool_is false) (keyOf_string_mk Tryz.underlying9 (Nat.le_trans hs (by decide) : s.size ≤ maxLen))
  rw [hat] at hv
  obtain rfl := bool_inv hv
  unfold Oper.wp execOp
  simp only [hop, hm, hx, Sem.run_bind, Sem.run_pure, hrun, Result.andThen_ok]
  exact hK' _ _ hK
 ·cases h
end Go.Proofs.YtpccbmechgkogaaGreatDoor.PgMapS
namespace Go.Proofs.YtpccbmechgkogaaGreatDoor.PgRw
open Go.RowKit Go.Proofs.YtpccbmechgkogaaGreatDoor.P Go.Proofs.YtpccbmechgkogaaGreatDoorW.PrintWords Go.Proofs.YtpccbmechgkogaaGreatDoorW.PrintLast Go.Proofs.YtpccbmechgkogaaGreatDoorW.PrintMore Go.Proofs.YtpccbmechgkogaaGreatDoor.PureKit Go.Proofs.YtpccbmechgkogaaGreatDoor.BkSpec Go.Proofs.YtpccbmechgkogaaGreatDoor.PgA
abbrev R := S54
abbrev kR := k54
def mkRow (key : ByteArray) (i : Nat) (v : V) : R := ⟨key, v.f0, ((i : Int) == 0), v.f2, (v.f1.size : Int)⟩
def rowsFrom (key : ByteArray) : List V → Nat → List R
 | [], _ => []
 | v :: r, i => mkRow key i v :: rowsFrom key r (i + 1)
theorem rowsFrom_len (key : ByteArray) : ∀ (l : List V) (i : Nat), (rowsFrom key l i).length = l.length
 | [], _ => rfl
 | v :: r, i => by simp [rowsFrom, rowsFrom_len key r (i + 1)]
theorem rowsFrom_snoc (key : ByteArray) : ∀ (l : List V) (v : V) (i : Nat), rowsFrom key (l ++ [v]) i = rowsFrom key l i ++ [mkRow key (i + l.length) v]
 | [], v, i => rfl
 | u :: r, v, i => by
  simp only [List.cons_append, rowsFrom, rowsFrom_snoc key r v (i + 1), List.length_cons]
  rw [show i + 1 + r.length = i + (r.length + 1) by omega]
def rowsOf (x : E) : List R := rowsFrom x.f0 x.f1 0
def allL (l : List E) : List R := l.flatMap rowsOf
theorem all_snoc (l : List E) (x : E) : allL (l ++ [x]) = allL l ++ rowsOf x := by simp [allL]
theorem all_len : ∀ (l : List E), (∀ x ∈ l, x.f1.length ≤ 20) → (allL l).length ≤ 20 * l.length
 | [], _ => by simp [allL]
 | x :: r, h => by
  have h1 := all_len r (fun y hy => h y (by simp [hy]))
  have h2 := h x (by simp)
  have h3 := rowsFrom_len x.f0 x.f1 0
  have h4 : allL (x :: r) = rowsOf x ++ allL r := by simp [allL]
  rw [h4, List.length_append, List.length_cons]
  unfold rowsOf
  omega
theorem cut_full {P : Program} (t e : TypeId) (kh : IntKind) {i : TypeInfo} (ht : P.underlying t = some (.slice e)) (hi : P.info? e = some i) (A : Option Addr) (n c : Nat) (j : Int) (h0 : 0 ≤ j) (hm : j ≤ n) (hc : n ≤ c) :
  ∀ W : World, (Instr.slice t (.slice A n c) none (some (.int kh j)) (some (.int kh j))).run P W = .ok (.slice A j.toNat j.toNat) W := by
 intro W
 have hel : P.elem t = e := by simp [Program.elem, ht]
 have hu : P.underlying t = some (.slice (P.elem t)) := by rw [hel]; exact ht
 have ha : (A.map fun x => x.add 0) = A := by cases A <;> simp [Addr.add]
 rw [run_slice_hm W t A n c hu kh kh j j h0 (Int.le_refl _) (by omega), hel]
 simp [sizeOf, typeInfo, hi, sliced, Result.andThen, ha]
def RowsTold (w : World) (l : List E) (e : Ending) (w' : World) : Prop :=
 ∃ (A0 : Option Addr) (n0 c0 : Nat) (more : Bool), e = .returned (.tuple #[.slice A0 n0 c0, .bool more, .int .i64 0]) ∧ (more = false → n0 = (allL l).length ∧ Kd.C kR w' A0 n0 (allL l)) ∧ Below w.heap.size w w'
theorem infoR : (Tryz.prog.info? 54).map (fun i => (i.zero, i.size, i.bytes)) = some (some (.agg #[.string ⟨#[]⟩, .int .u64 0, .bool false, .bool false, .int .i64 0]), 5, 40) := by kernel_rfl
abbrev oS : Obj := .cells #[.string no] 9
abbrev oI : Obj := .cells #[.int .u64 0] 26
set_option maxRecDepth 100000 in
set_option maxHeartbeats 6400000 in
theorem rows_any (A : Option Addr) (c : Nat) (l : List E) (w : World) (hr : Kd.C k79 w A l.length l) (hi : IdxSpec.indexB l = true) :
  Calls Tryz.prog 8 #[.slice A l.length c, .string no, .string no, .int .u64 0, .int .i64 1000] w (RowsTold w l) := by
 obtain ⟨h60, hok, _⟩ := (IdxLaws.index_iff l).1 hi
 have h20 : ∀ x ∈ l, x.f1.length ≤ 20 := fun x hx => by
  have h3 := hok x hx
  simp only [IdxLaws.okE, ChSpec.chainB, Bool.and_eq_true, decide_eq_true_eq] at h3
  exact h3.2.1.1
 have HB0 := Aside0.mk (below_alloc (below_alloc (Below.refl w.heap.size w) oS) oI)
 have BS := Aside0.mk (blk_alloc (blk_new w oS) oI)
 have C := Aside0.mk (good_any A c l _ (Kd.C_below hr HB0.out) hi)
 have H20 := Aside0.mk h20
 have HR := Aside0.mk (fun W (hW : Below w.heap.size w W) => Kd.C_below hr hW)
 have hu := Tryz.underlying79
 have hu2 := Tryz.underlying63
 have hu3 := Tryz.underlying54
 clear hr hi hok h20
 have hz := (blk_cell BS.out 0).trans rfl
 go_enter Tryz.func8, Tryz.ntmps8
 go_wp2_with fail
 refine C.out.mono ?_
 rintro e w1 ⟨rfl, hb⟩
 have HB := Aside0.mk (below_step HB0.out hb)
 have BS1 := Aside0.mk (blk_below BS.out hb)
 clear hb C BS HB0 hz
 go_wp2
 go_loopw [13, 27] (fun a i wr => ∃ k : Nat, k ≤ l.length ∧ i = .int .i64 k ∧ Aside0 (Kd.R kR 54 wr w1.heap.size (fun _ => True) a (allL (l.take k))) ∧ Aside0 (Below w1.heap.size w1 wr)) (fun _ i _ => l.length - (intOf i).toNat)
 case atStart => exact ⟨0, by omega, rfl, ⟨Kd.R_nil _ _ _ _ _⟩, ⟨Below.refl _ _⟩⟩
 case round =>
  obtain ⟨k, hk, rfl, HO, HB1⟩ := hrel
  obtain ⟨A3, c3, rfl⟩ := Kd.R_slice HO.out
  by_cases hlt : k < l.length
  ·have hx2 := H20.out _ (List.getElem_mem hlt)
   obtain ⟨ad, A1, c1, e0, h0, h1, hl1, hC⟩ := at_T79 (HR.out w (Below.refl _ _)) (k : Int) (by omega) (by omega)
   have hbw := below_step HB.out HB1.out
   subst e0
   have hx : rd_T79 l (k : Int) = l[k] := rd_here _ l k hlt
   rw [hx] at h0 h1 hl1 hC
   rw [Int.toNat_natCast] at h0 h1
   have HS : Aside0 (allL (l.take (k + 1)) = allL (l.take k) ++ rowsFrom l[k].f0 l[k].f1 0) := ⟨by rw [List.take_succ_eq_append_getElem hlt, all_snoc]; rfl⟩
   have hal := all_len (l.take k) (fun x hx => H20.out x (List.mem_of_mem_take hx))
   rw [List.length_take] at hal
   generalize l[k] = x at h0 h1 hl1 hC HS hx2
   generalize allL (l.take k) = acc at HO hal HS
   have HAL := Aside0.mk (show acc.length ≤ 1200 by omega)
   have HC := Aside0.mk (fun W (hW : Below w.heap.size w W) => Kd.C_below hC hW)
   replace h0 := pw_cell_below hbw h0
   replace h1 := pw_cell_below hbw h1
   have HL := Aside0.mk hlt
   have HX2 := Aside0.mk hx2
   have j0 : (0 : Int) ≤ (k : Int) := by omega
   have j1 : (k : Int) < (l.length : Int) := by omega
   have hw2 : IntKind.i64.wrap ((k : Int) + 1) = ((k + 1 : Nat) : Int) := by rw [IntKind.wrap_i64]; omega
   have BX := Aside0.mk (blk_new wr (.cells #[.string x.f0, .slice A1 x.f1.length c1] 79))
   have HBX := Aside0.mk (below_alloc (Below.refl wr.heap.size wr) (.cells #[.string x.f0, .slice A1 x.f1.length c1] 79))
   have HO0 : Aside0 (Kd.R kR 54 (wr.alloc (.cells #[.string x.f0, .slice A1 x.f1.length c1] 79)) w1.heap.size (fun _ => True) (.slice A3 acc.length c3) (acc ++ rowsFrom x.f0 (x.f1.take 0) 0)) := ⟨by rw [show rowsFrom x.f0 (x.f1.take 0) 0 = [] from rfl, List.append_nil]; exact Kd.R_below HO.out HBX.out⟩
   clear hx hk hlt hal hC hx2 HO hbw
   go_wp2
   go_loopw [13, 34] (fun a j w2 => ∃ m : Nat, m ≤ x.f1.length ∧ j = .int .i64 m ∧ Aside0 (Kd.R kR 54 w2 w1.heap.size (fun _ => True) a (acc ++ rowsFrom x.f0 (x.f1.take m) 0)) ∧ Aside0 (w2.heap[wr.heap.size]? = some (.cells #[.string x.f0, .slice A1 x.f1.length c1] 79 (0, 0))) ∧ Aside0 (Below w1.heap.size w1 w2)) (fun _ j _ => x.f1.length - (intOf j).toNat)
   case atStart => exact ⟨0, by omega, rfl, HO0, BX, ⟨below_step HB1.out HBX.out⟩⟩
   case round =>
    rename World => w2
    obtain ⟨m, hm, rfl, HO, BX, HB2⟩ := hrel
    obtain ⟨A3, c3, rfl⟩ := Kd.R_slice HO.out
    by_cases hlt2 : m < x.f1.length
    ·obtain ⟨ad2, e1, y0, y1, y2, y3⟩ := at_T63 (HC.out _ (below_step HB.out HB2.out)) (m : Int) (by omega) (by omega)
     subst e1
     have hy : rd_T63 x.f1 (m : Int) = x.f1[m] := rd_here _ x.f1 m hlt2
     rw [hy, Int.toNat_natCast] at y0 y1 y2 y3
     have HS2 : Aside0 (acc ++ rowsFrom x.f0 (x.f1.take (m + 1)) 0 = (acc ++ rowsFrom x.f0 (x.f1.take m) 0) ++ [mkRow x.f0 m x.f1[m]]) := ⟨by rw [List.take_succ_eq_append_getElem hlt2, rowsFrom_snoc, List.length_take, Nat.min_eq_left (by omega), Nat.zero_add, List.append_assoc]⟩
     have hal : (acc ++ rowsFrom x.f0 (x.f1.take m) 0).length ≤ 1240 := by rw [List.length_append, rowsFrom_len, List.length_take]; have := HAL.out; have := HX2.out; omega
     generalize acc ++ rowsFrom x.f0 (x.f1.take m) 0 = rs at HO hal HS2
     generalize x.f1[m] = v at y0 y1 y2 y3 HS2
     have HAL2 := Aside0.mk hal
     have i0 : (0 : Int) ≤ (m : Int) := by omega
     have i1 : (m : Int) < (x.f1.length : Int) := by omega
     have HM := Aside0.mk hlt2
     have hz := fun o j => blk_cell (blk_alloc BX.out o) j
     have HBV := Aside0.mk (below_alloc (Below.refl w2.heap.size w2) (.cells #[.int .u64 v.f0, .string v.f1, .bool v.f2, .int .i64 v.f3] 63))
     have hw3 : IntKind.i64.wrap ((m : Int) + 1) = ((m + 1 : Nat) : Int) := by rw [IntKind.wrap_i64]; have := HX2.out; omega
     have RN := Aside0.mk (Kd.R_ne HO.out BX.out (by decide))
     have HU := fun W => Aside0.mk (under_any x.f0 W)
     clear hy hal hlt2 hm
     go_wp2_with fail
     refine (HU _).out.mono ?_
     rintro e w3 ⟨rfl, rfl⟩
     clear HU
     go_wp2_with ((with_reducible refine gate_builtin (b := .append) (xs := #[.tmp 43, .tmp 56]) rfl ?_); at_builtin; refine Kd.R_append kR (w0 := w1) w1.heap.size rfl (.tmp 43) (.tmp 56) 46 54 (.agg #[.string ⟨#[]⟩, .int .u64 0, .bool false, .bool false, .int .i64 0]) 40 rfl Tryz.underlying46 infoR rfl (by decide) (by decide) (.slice A3 rs.length c3) rs (mkRow x.f0 m v) [.string x.f0, .int .u64 v.f0, .bool ((m : Int) == 0), .bool v.f2, .int .i64 (v.f1.size : Int)] (fun _ => True) (fun _ => False) rfl (by first | (go_simp; done) | (go_simp; rfl)) ?aP (fun _ hk => hk.elim) ?aF ?aO ?aB ?aS ?aL ?_; (case aP => exact k54_mkM _ _ _ (mkRow x.f0 m v)); (case aF => exact (fun _ _ => trivial)); (case aO => exact Kd.R_below HO.out HBV.out); (case aB => exact below_step HB2.out HBV.out); (case aS => have := HB2.out.size; simp; omega); (case aL => have := HAL2.out; omega); intro v1 w13 ho hb hg hat; have z0 := Aside0.mk ho; have z1 := Aside0.mk hb; have z2 := Aside0.mk ((hg.block _ (blk_lt (blk_alloc BX.out _)) RN.out).trans (blk_alloc BX.out _)); clear ho hb hg hat)
     exact ⟨⟨m + 1, by have := HM.out; omega, by go_num, ⟨by rw [HS2.out]; exact z0.out⟩, z2, z1⟩, by simp [intOf]; have := HM.out; omega⟩
    ·have hm2 : m = x.f1.length := by omega
     have HO : Aside0 (Kd.R kR 54 w2 w1.heap.size (fun _ => True) (.slice A3 (acc ++ rowsFrom x.f0 (x.f1.take m) 0).length c3) (allL (l.take (k + 1)))) := ⟨by rw [HS.out]; have := HO.out; rw [show x.f1.take m = x.f1 by rw [hm2, List.take_length]] at this ⊢; exact this⟩
     clear hm hm2
     go_wp2
     exact ⟨⟨k + 1, by have := HL.out; omega, by go_num, HO, HB2⟩, by simp [intOf]; have := HL.out; omega⟩
  ·have hk2 : k = l.length := by omega
   have htk : l.take k = l := by rw [hk2, List.take_length]
   rw [htk] at HO ⊢
   subst hk2
   clear htk
   have hz := (blk_cell (blk_below BS1.out HB1.out) 0).trans rfl
   have hal := all_len l H20.out
   by_cases hm : (allL l).length ≤ 1000
   ·have d1 : decide (1000 < (allL l).length) = false := decide_eq_false (by omega)
    have d2 : decide ((1000 : Int) < ((allL l).length : Int)) = false := decide_eq_false (by omega)
    have HF := Aside0.mk (Kd.R_reads' HO.out).2.2
    clear hm hal
    go_wp2
    go_ret3
    exact ⟨_, _, _, false, rfl, fun _ => ⟨rfl, HF.out⟩, below_step HB.out HB1.out⟩
   ·have d1 : decide (1000 < (allL l).length) = true := decide_eq_true (by omega)
    have d2 : decide ((1000 : Int) < ((allL l).length : Int)) = true := decide_eq_true (by omega)
    obtain ⟨i0, hi0, _, _, _⟩ := info_parts infoR
    have hcut := cut_full (P := Tryz.prog) 46 54 .i64 Tryz.underlying46 hi0 A3 (allL l).length c3 1000 (by decide) (by omega) (Kd.R_reads' HO.out).2.1
    clear hm hal hi0
    go_wp2
    go_ret3
    exact ⟨_, _, _, true, rfl, fun h => (by cases h), below_step HB.out HB1.out⟩
end Go.Proofs.YtpccbmechgkogaaGreatDoor.PgRw
namespace Go.Proofs.YtpccbmechgkogaaGreatDoor.RefA
open Go.RowKit Go.Proofs.YtpccbmechgkogaaGreatDoor.P Go.Proofs.YtpccbmechgkogaaGreatDoorW.PrintWords Go.Proofs.YtpccbmechgkogaaGreatDoor.PureKit Go.Proofs.YtpccbmechgkogaaGreatDoor.BkSpec
theorem oc_at (s : ByteArray) (k : Nat) (h : k < s.size) : s[k].toNat = (oc s)[k]'(by rw [oc_length]; exact h) := by simp [oc]; rfl
set_option maxRecDepth 100000 in
set_option maxHeartbeats 1600000 in
theorem keys_ok (s : ByteArray) (w : World) (hs : s.size ≤ 60) (h : ∀ c ∈ oc s, 32 ≤ c ∧ c ≤ 126) :
  Calls Tryz.prog 165 #[.string s] w fun e w' => e = .returned (.bool true) ∧ Below w.heap.size w w' := by
 have H := Aside0.mk h
 have hB := Aside0.mk (Below.refl w.heap.size w)
 clear h
 go_enter Tryz.func165, Tryz.ntmps165
 go_wp2
 go_loopw [3] (fun i wr => ∃ k : Nat, k ≤ s.size ∧ i = .int .i64 k ∧ Aside0 (Below w.heap.size w wr)) (fun i _ => s.size - (intOf i).toNat)
 case atStart => exact ⟨0, by omega, rfl, hB⟩
 case round =>
  clear hB
  obtain ⟨k, hk, rfl, HB⟩ := hrel
  by_cases hlt : k < s.size
  ·have hc := H.out (s[k].toNat) (by rw [oc_at s k hlt]; exact List.getElem_mem _)
   have d1 : decide ((s[k].toNat : Int) < 32) = false := decide_eq_false (by omega)
   have d2 : decide ((s[k].toNat : Int) > 126) = false := decide_eq_false (by omega)
   have d1' : decide (s[k].toNat < 32) = false := decide_eq_false (by omega)
   have d2' : decide (126 < s[k].toNat) = false := decide_eq_false (by omega)
   clear hc
   go_wp2
   exact ⟨⟨k + 1, by omega, by go_num, HB⟩, by simp [intOf]; omega⟩
  ·have hk2 : k = s.size := by omega
   subst hk2
   go_wp2
   go_ret
   exact ⟨rfl, HB.out⟩
theorem key_ok (s : ByteArray) (w : World) (h : Name.keyB s = true) :
  Calls Tryz.prog 124 #[.string s] w fun e w' => e = .returned (.bool true) ∧ Below w.heap.size w w' := by
 unfold Name.keyB Name.isB at h
 simp only [Bool.and_eq_true, decide_eq_true_eq, List.all_eq_true] at h
 obtain ⟨⟨h1, h2⟩, h3⟩ := h
 have C := Aside0.mk (keys_ok s w h2 (fun c hc => by have := h3 c hc; unfold Name.plainB at this; simpa using this))
 have d1 : (s.toList == []) = false := by
  rw [beq_eq_false_iff_ne]
  intro e
  have : s.toList.length = 0 := by rw [e]; rfl
  rw [ByteArray.toList_eq] at this
  have h4 : s.data.toList.length = s.size := by simp
  omega
 have d2 : decide (s.size ≤ 60) = true := decide_eq_true h2
 clear h1 h3
 go_enter Tryz.func124, Tryz.ntmps124
 go_wp2_with fail
 refine C.out.mono ?_
 rintro e w1 ⟨rfl, hb⟩
 have HB := Aside0.mk hb
 clear hb C
 go_wp2
 go_ret
 exact ⟨rfl, HB.out⟩
set_option maxRecDepth 100000 in
set_option maxHeartbeats 1600000 in
theorem may_ok (v : V) (w : World) (h : ChSpec.mayB v = true) :
  Calls Tryz.prog 166 #[.agg #[.int .u64 v.f0, .string v.f1, .bool v.f2, .int .i64 v.f3]] w fun e w' => e = .returned (.bool true) ∧ Below w.heap.size w w' := by
 unfold ChSpec.mayB at h
 simp only [Bool.and_eq_true, decide_eq_true_eq, Bool.or_eq_true, Bool.not_eq_true'] at h
 obtain ⟨⟨⟨⟨h1, h2⟩, h3⟩, h4⟩, h5⟩ := h
 have hu := Tryz.underlying63
 have d1 : decide (v.f0 ≤ 281474976710655) = true := decide_eq_true h1
 have d2 : decide ((v.f1.size : Int) ≤ 2000) = true := decide_eq_true h2
 have d4 : decide (0 ≤ v.f3) = true := decide_eq_true h4
 have d5 : decide (v.f3 ≤ 1099511627775) = true := decide_eq_true h5
 clear h1 h2 h4 h5
 rcases h3 with h3 | h3
 ·clear hu
  have hu := Tryz.underlying63
  rw [h3]
  clear h3
  go_enter Tryz.func166, Tryz.ntmps166
  go_wp2
  go_ret
  exact ⟨rfl, (Below.refl _ _).alloc (Nat.le_refl _) _⟩
 ·have d3 : (v.f1.toList == []) = true := by rw [h3]; rfl
  clear h3
  cases hm : v.f2 with
  | false =>
   go_enter Tryz.func166, Tryz.ntmps166
   go_wp2
   go_ret
   exact ⟨rfl, (Below.refl _ _).alloc (Nat.le_refl _) _⟩
  | true =>
   go_enter Tryz.func166, Tryz.ntmps166
   go_wp2
   go_ret
   exact ⟨rfl, (Below.refl _ _).alloc (Nat.le_refl _) _⟩
theorem part_ok (p : P) (w : World) (h : partB p = true) :
  Calls Tryz.prog 167 #[.agg #[.int .i64 p.f0, .string p.f1]] w fun e w' => e = .returned (.bool true) ∧ Below w.heap.size w w' := by
 unfold partB at h
 simp only [Bool.and_eq_true, decide_eq_true_eq] at h
 obtain ⟨⟨h1, h2⟩, h3⟩ := h
 have hu := Tryz.underlying119
 have d1 : decide (1 ≤ p.f0) = true := decide_eq_true h1
 have d2 : decide (p.f0 ≤ 1000) = true := decide_eq_true h2
 have d3 : decide ((p.f1.size : Int) ≤ 2000) = true := decide_eq_true h3
 clear h1 h2 h3
 go_enter Tryz.func167, Tryz.ntmps167
 go_wp2
 go_ret
 exact ⟨rfl, (Below.refl _ _).alloc (Nat.le_refl _) _⟩
theorem number_ok (id : Int) (w : World) (h1 : 1 ≤ id) (h2 : id ≤ 281474976710655) :
  Calls Tryz.prog 168 #[.int .u64 id] w fun e w' => e = .returned (.bool true) ∧ Below w.heap.size w w' := by
 have d1 : decide (1 ≤ id) = true := decide_eq_true h1
 have d2 : decide (id ≤ 281474976710655) = true := decide_eq_true h2
 clear h1 h2
 go_enter Tryz.func168, Tryz.ntmps168
 go_wp2
 go_ret
 exact ⟨rfl, Below.refl _ _⟩
end Go.Proofs.YtpccbmechgkogaaGreatDoor.RefA
namespace Go.Proofs.YtpccbmechgkogaaGreatDoor.RefB
open Go.RowKit Go.Proofs.YtpccbmechgkogaaGreatDoor.P Go.Proofs.YtpccbmechgkogaaGreatDoorW.PrintWords Go.Proofs.YtpccbmechgkogaaGreatDoor.PureKit
theorem last_at (s : ByteArray) (h : 0 < s.size) : (oc s).getLast? = some (s[s.size - 1]'(by omega)).toNat := by
 rw [List.getLast?_eq_getElem?, List.getElem?_eq_getElem (by rw [oc_length]; omega)]
 simp [oc]
 rfl
theorem head_at (s : ByteArray) (h : 0 < s.size) : (oc s).head? = some (s[0]'h).toNat := by
 rw [List.head?_eq_getElem?, List.getElem?_eq_getElem (by rw [oc_length]; exact h)]
 simp [oc]
 rfl
set_option maxRecDepth 100000 in
set_option maxHeartbeats 3200000 in
theorem bucket_ok (s : ByteArray) (w : World) (h : NameW.bucketB s = true) :
  Calls Tryz.prog 70 #[.string s] w fun e w' => e = .returned (.bool true) ∧ Below w.heap.size w w' := by
 unfold NameW.bucketB Name.isB at h
 simp only [Bool.and_eq_true, decide_eq_true_eq, List.all_eq_true, Bool.not_eq_true', decide_eq_false_iff_not] at h
 obtain ⟨⟨⟨⟨h1, h2⟩, h3⟩, h4⟩, h5⟩ := h
 have H := Aside0.mk h3
 rw [head_at s (by omega)] at h4
 rw [last_at s (by omega)] at h5
 have HH := Aside0.mk h4
 have HL := Aside0.mk h5
 have hB := Aside0.mk (Below.refl w.heap.size w)
 have d1 : decide ((s.size : Int) < 3) = false := decide_eq_false (by omega)
 have d2 : decide ((s.size : Int) > 20) = false := decide_eq_false (by omega)
 have d1' : decide (s.size < 3) = false := decide_eq_false (by omega)
 have d2' : decide (20 < s.size) = false := decide_eq_false (by omega)
 have hw : IntKind.i64.wrap ((s.size : Int) - 1) = ((s.size - 1 : Nat) : Int) := by rw [IntKind.wrap_i64]; omega
 clear h3 h4 h5
 go_enter Tryz.func70, Tryz.ntmps70
 go_wp2
 go_loopw [3] (fun i wr => ∃ k : Nat, k ≤ s.size ∧ i = .int .i64 k ∧ Aside0 (Below w.heap.size w wr)) (fun i _ => s.size - (intOf i).toNat)
 case atStart => exact ⟨0, by omega, rfl, hB⟩
 case round =>
  clear hB d1 d2 d1' d2'
  obtain ⟨k, hk, rfl, HB⟩ := hrel
  by_cases hlt : k < s.size
  ·have hc := H.out (s[k].toNat) (by rw [RefA.oc_at s k hlt]; exact List.getElem_mem _)
   have hend : s[k].toNat = 45 → k ≠ 0 ∧ k ≠ s.size - 1 := fun h => by
    constructor
    ·intro e; subst e; exact HH.out (by rw [h])
    ·intro e; subst e; exact HL.out (by rw [h])
   unfold NameW.wordB at hc
   simp only [Bool.or_eq_true, Bool.and_eq_true, decide_eq_true_eq] at hc
   have HK := Aside0.mk hlt
   have hw2 : IntKind.i64.wrap ((k : Int) + 1) = ((k + 1 : Nat) : Int) := by rw [IntKind.wrap_i64]; omega
   have fin : ∀ wz, Aside0 (Below w.heap.size w wz) → (∃ k_1 : Nat, k_1 ≤ s.size ∧ (Value.int .i64 ((k : Int) + 1)) = .int .i64 k_1 ∧ Aside0 (Below w.heap.size w wz)) := fun wz hz => ⟨k + 1, by have := HK.out; omega, by go_num, hz⟩
   have hE : (((k : Int) == 0) = true ∧ (k == 0) = true) ∨ (((k : Int) == 0) = false ∧ (k == 0) = false ∧ ((k : Int) == ((s.size - 1 : Nat) : Int)) = true ∧ (k == s.size - 1) = true) ∨ (((k : Int) == 0) = false ∧ (k == 0) = false ∧ ((k : Int) == ((s.size - 1 : Nat) : Int)) = false ∧ (k == s.size - 1) = false) := by
    simp only [beq_iff_eq, beq_eq_false_iff_ne]
    omega
   have hC : (decide (97 ≤ s[k].toNat) = true ∧ decide (s[k].toNat ≤ 122) = true ∧ decide ((97 : Int) ≤ (s[k].toNat : Int)) = true ∧ decide ((s[k].toNat : Int) ≤ 122) = true) ∨ (decide (97 ≤ s[k].toNat) = true ∧ False) ∨
     (decide (97 ≤ s[k].toNat) = false ∧ decide (48 ≤ s[k].toNat) = true ∧ decide (s[k].toNat ≤ 57) = true ∧ decide ((97 : Int) ≤ (s[k].toNat : Int)) = false ∧ decide ((48 : Int) ≤ (s[k].toNat : Int)) = true ∧ decide ((s[k].toNat : Int) ≤ 57) = true) ∨ s[k].toNat = 45 := by
    simp only [decide_eq_true_eq, decide_eq_false_iff_not]
    omega
   clear hc
   rcases hC with ⟨f1, f2, f3, f4⟩ | ⟨_, f1⟩ | ⟨f1, f2, f3, f4, f5, f6⟩ | f1
   ·clear hend
    rcases hE with ⟨g1, g2⟩ | ⟨g1, g2, g3, g4⟩ | ⟨g1, g2, g3, g4⟩
    all_goals
     go_wp2
     exact ⟨fin _ HB, by simp [intOf]; have := HK.out; omega⟩
   ·exact f1.elim
   ·clear hend
    rcases hE with ⟨g1, g2⟩ | ⟨g1, g2, g3, g4⟩ | ⟨g1, g2, g3, g4⟩
    all_goals
     go_wp2
     exact ⟨fin _ HB, by simp [intOf]; have := HK.out; omega⟩
   ·obtain ⟨h1, h2⟩ := hend f1
    rcases hE with ⟨g1, g2⟩ | ⟨g1, g2, g3, g4⟩ | ⟨g1, g2, g3, g4⟩
    ·exact absurd (beq_iff_eq.1 g2) h1
    ·exact absurd (beq_iff_eq.1 g4) h2
    ·have f2 : decide (97 ≤ s[k].toNat) = false := decide_eq_false (by omega)
     have f3 : decide (48 ≤ s[k].toNat) = false := decide_eq_false (by omega)
     have f4 : decide ((97 : Int) ≤ (s[k].toNat : Int)) = false := decide_eq_false (by omega)
     have f5 : decide ((48 : Int) ≤ (s[k].toNat : Int)) = false := decide_eq_false (by omega)
     have f6 : ((s[k].toNat : Int) == 45) = true := by rw [beq_iff_eq]; omega
     have f7 : (s[k].toNat == 45) = true := by rw [beq_iff_eq]; exact f1
     clear hend h1 h2 f1
     go_wp2
     exact ⟨fin _ HB, by simp [intOf]; have := HK.out; omega⟩
  ·have hk2 : k = s.size := by omega
   subst hk2
   go_wp2
   go_ret
   exact ⟨rfl, HB.out⟩
end Go.Proofs.YtpccbmechgkogaaGreatDoor.RefB
