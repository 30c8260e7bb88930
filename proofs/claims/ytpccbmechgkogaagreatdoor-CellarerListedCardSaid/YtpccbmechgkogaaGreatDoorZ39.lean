/-
  Lemmas: Far, PgA, PgSpec, PgIt.
-/
import Derived.Test.YtpccbmechgkogaaGreatDoorProg
import Derived.RangeFuncNested
import Derived.RangeFuncBound
import Derived.RangeFuncCalls
import Derived.RangeFuncLeaves
import Derived.Shelf.Abstract
import Derived.WalkKit
import Derived.OwnWalkIn
import Derived.TacticsInMore
import Derived.LoopNIn
import Derived.LoopIn
import Derived.BigQuiet
import Derived.Outline
import Derived.Test.YtpccbmechgkogaaGreatDoorV0
import Derived.Test.YtpccbmechgkogaaGreatDoorZ00
import Derived.Test.YtpccbmechgkogaaGreatDoorZ01
import Derived.Test.YtpccbmechgkogaaGreatDoorZ02
import Derived.Test.YtpccbmechgkogaaGreatDoorZ03
import Derived.Test.YtpccbmechgkogaaGreatDoorZ04
import Derived.Test.YtpccbmechgkogaaGreatDoorZ06
import Derived.Test.YtpccbmechgkogaaGreatDoorZ20
set_option linter.unusedVariables false
set_option linter.unusedSimpArgs false
namespace Go.Proofs.YtpccbmechgkogaaGreatDoor.Far
open Go.RowKit Go.Proofs.YtpccbmechgkogaaGreatDoor.P Go.Proofs.YtpccbmechgkogaaGreatDoorW.PrintWords Go.Proofs.YtpccbmechgkogaaGreatDoor.PureKit Go.Proofs.YtpccbmechgkogaaGreatDoor.BkSpec Go.Proofs.YtpccbmechgkogaaGreatDoor.Wk Go.Proofs.YtpccbmechgkogaaGreatDoor.DpChk
def Odd (u : Value) : Prop := (∀ x, u ≠ .int .i64 x) ∧ ∀ A n c, u ≠ .slice A n c
theorem odd_s (s : ByteArray) : Odd (.string s) := ⟨fun x e => (by cases e), fun A n c e => (by cases e)⟩
section
variable {W W1 : World} {g : Nat} {now : Int} {A0 : Option Addr} {n0 c0 : Nat}
theorem add_block (a : Addr) (k : Nat) : (a.add k).block = a.block := by
 unfold Addr.add
 split <;> rfl
theorem odd_ne {a : Addr} {u : Value} (hb : W.heap[g]? = some (.cells #[.int .i64 now, .slice A0 n0 c0] 25 (0, 0))) (h : W.cell? a = some u) (ho : Odd u) : a.block ≠ g := by
 rintro rfl
 unfold World.cell? at h
 rw [hb] at h
 dsimp only at h
 split at h
 ·cases h
 ·rcases a with ⟨b, o, sp⟩
  match o with
  | 0 => exact ho.1 _ (Option.some.inj h).symm
  | 1 => exact ho.2 _ _ _ (Option.some.inj h).symm
  | o + 2 => simp at h
theorem row_but {α : Type} {d : Kd α} {A : Option Addr} {n : Nat} {xs : List α} (hb : W.heap[g]? = some (.cells #[.int .i64 now, .slice A0 n0 c0] 25 (0, 0))) (hs : ∀ k, k ≠ g → k < W.heap.size → W1.heap[k]? = W.heap[k]?)
  (ho : ∀ (x : α) (cs : List Value), d.K W x cs → ∃ (j : Nat) (u : Value), cs[j]? = some u ∧ Odd u) (hK : ∀ (x : α) (cs : List Value), d.K W x cs → d.K W1 x cs) (h : Kd.C d W A n xs) : Kd.C d W1 A n xs := by
 obtain ⟨h1, h2, h3⟩ := h
 refine ⟨h1, h2, fun hn => ?_⟩
 obtain ⟨ad, e, hc⟩ := h3 hn
 refine ⟨ad, e, fun j p hp => ?_⟩
 obtain ⟨c, hz, hr, hcell⟩ := hc j p hp
 refine ⟨c, hz, hK _ _ hr, fun i u hu => ?_⟩
 obtain ⟨j', u', hj', hou⟩ := ho _ _ hr
 have hne := odd_ne hb (hcell j' u' hj') hou
 rw [add_block] at hne
 have hq := hcell i u hu
 have hlt := World.block_lt_of_cell? W _ hq
 rw [add_block] at hlt
 have he := hs ad.block hne hlt
 unfold World.cell? at hq ⊢
 rw [add_block] at hq ⊢
 rw [he]
 exact hq
theorem rows_but {A : Option Addr} {n : Nat} {l : List B} (hb : W.heap[g]? = some (.cells #[.int .i64 now, .slice A0 n0 c0] 25 (0, 0))) (hs : ∀ k, k ≠ g → k < W.heap.size → W1.heap[k]? = W.heap[k]?) (h : Kd.C kB W A n l) : Kd.C kB W1 A n l := by
 have hV : ∀ {A n} {l : List V}, Kd.C k63 W A n l → Kd.C k63 W1 A n l := fun h => row_but hb hs (fun x cs hx => by obtain rfl := k63_open hx; exact ⟨1, _, rfl, odd_s _⟩) (fun x cs hx => by obtain rfl := k63_open hx; exact k63_mk _ _) h
 have hP : ∀ {A n} {l : List P}, Kd.C k119 W A n l → Kd.C k119 W1 A n l := fun h => row_but hb hs (fun x cs hx => by obtain rfl := k119_open hx; exact ⟨1, _, rfl, odd_s _⟩) (fun x cs hx => by obtain rfl := k119_open hx; exact k119_mk _ _) h
 have hE : ∀ {A n} {l : List E}, Kd.C k79 W A n l → Kd.C k79 W1 A n l := fun h => row_but hb hs (fun x cs hx => by obtain ⟨A1, c1, rfl, _⟩ := k79_open hx; exact ⟨0, _, rfl, odd_s _⟩) (fun x cs hx => by obtain ⟨A1, c1, rfl, h1, h2⟩ := k79_open hx; exact k79_mk _ _ h1 (hV h2)) h
 have hU : ∀ {A n} {l : List U}, Kd.C k131 W A n l → Kd.C k131 W1 A n l := fun h => row_but hb hs (fun x cs hx => by obtain ⟨A1, c1, rfl, _⟩ := k131_open hx; exact ⟨1, _, rfl, odd_s _⟩) (fun x cs hx => by obtain ⟨A1, c1, rfl, h1, h2⟩ := k131_open hx; exact k131_mk _ _ h1 (hP h2)) h
 exact row_but hb hs (fun x cs hx => by obtain ⟨A1, c1, A2, c2, rfl, _⟩ := k40_open hx; exact ⟨0, _, rfl, odd_s _⟩) (fun x cs hx => by obtain ⟨A1, c1, A2, c2, rfl, h1, h2, h3, h4⟩ := k40_open hx; exact k40_mk _ _ h1 (hE h2) h3 (hU h4)) h
theorem rd_but {v : Value} {l : List B} {ok : Nat → Prop} (h : Rd kB W ok v l) (hb : W.heap[g]? = some (.cells #[.int .i64 now, .slice A0 n0 c0] 25 (0, 0))) : Rd kB W (fun k => k ≠ g) v l := by
 obtain ⟨A, c, rfl, hl, hF⟩ := h
 exact ⟨A, c, rfl, hl, fun W' hW => rows_but hb hW (Kd.F_now hF)⟩
end
end Go.Proofs.YtpccbmechgkogaaGreatDoor.Far
namespace Go.Proofs.YtpccbmechgkogaaGreatDoor.PgA
open Go.RowKit Go.Proofs.YtpccbmechgkogaaGreatDoor.P Go.Proofs.YtpccbmechgkogaaGreatDoorW.PrintWords Go.Proofs.YtpccbmechgkogaaGreatDoor.PureKit Go.Proofs.YtpccbmechgkogaaGreatDoor.BkSpec
abbrev no : ByteArray := ⟨#[]⟩
set_option maxRecDepth 100000 in
theorem good_any (A : Option Addr) (c : Nat) (l : List E) (w : World) (hr : Kd.C k79 w A l.length l) (h : IdxSpec.indexB l = true) :
  Calls Tryz.prog 34 #[.slice A l.length c, .string no, .string no, .int .i64 1000] w fun e w' => e = .returned (.bool true) ∧ Below w.heap.size w w' := by
 have C := Aside0.mk (ChkI.check_any A c l w hr h)
 have CP := fun W => Aside0.mk (NameW.prefix_any no W)
 rw [show NameW.prefixB no = true by decide] at CP
 clear hr h
 go_enter Tryz.func34, Tryz.ntmps34
 go_wp2_with fail
 refine C.out.mono ?_
 rintro e w1 ⟨rfl, hb⟩
 have HB := Aside0.mk hb
 clear hb C
 go_wp2_with fail
 refine (CP _).out.mono ?_
 rintro e w2 ⟨rfl, hb⟩
 have HB2 := Aside0.mk (below_step HB.out hb)
 clear hb CP HB
 go_wp2
 go_ret
 exact ⟨rfl, HB2.out⟩
theorem lite_any (s : ByteArray) (w : World) : Calls Tryz.prog 131 #[.string s, .string no] w fun e w' => e = .returned (.bool true) ∧ w' = w := by
 go_enter Tryz.func131, Tryz.ntmps131
 go_wp2
 go_ret
 exact ⟨rfl, rfl⟩
theorem has_any (s : ByteArray) (w : World) : Calls Tryz.prog 81 #[.string s, .string no] w fun e w' => e = .returned (.bool true) ∧ w' = w := by
 have C := Aside0.mk (lite_any s w)
 go_enter Tryz.func81, Tryz.ntmps81
 go_wp2_with fail
 refine C.out.mono ?_
 rintro e w1 ⟨rfl, rfl⟩
 clear C
 go_wp2
 go_ret
 exact ⟨rfl, rfl⟩
theorem under_any (s : ByteArray) (w : World) : Calls Tryz.prog 37 #[.string s, .string no] w fun e w' => e = .returned (.bool true) ∧ w' = w := by
 have C := Aside0.mk (has_any s w)
 go_enter Tryz.func37, Tryz.ntmps37
 go_wp2_with fail
 refine C.out.mono ?_
 rintro e w1 ⟨rfl, rfl⟩
 clear C
 go_wp2
 go_ret
 exact ⟨rfl, rfl⟩
theorem lcut_any (s : ByteArray) (w : World) : Calls Tryz.prog 169 #[.string s, .string no] w fun e w' => e = .returned (.tuple #[.string s, .bool true]) ∧ w' = w := by
 have C := Aside0.mk (lite_any s w)
 go_enter Tryz.func169, Tryz.ntmps169
 go_wp2_with fail
 refine C.out.mono ?_
 rintro e w1 ⟨rfl, rfl⟩
 clear C
 go_wp2
 go_ret2
 exact ⟨rfl, rfl⟩
theorem cut_any (s : ByteArray) (w : World) : Calls Tryz.prog 129 #[.string s, .string no] w fun e w' => e = .returned (.tuple #[.string s, .bool true]) ∧ w' = w := by
 have C := Aside0.mk (lcut_any s w)
 go_enter Tryz.func129, Tryz.ntmps129
 go_wp2_with fail
 refine C.out.mono ?_
 rintro e w1 ⟨rfl, rfl⟩
 clear C
 go_wp2
 go_ret2
 exact ⟨rfl, rfl⟩
set_option maxRecDepth 100000 in
theorem group_any (s : ByteArray) (w : World) (h : Name.keyB s = true) : Calls Tryz.prog 80 #[.string s, .string no, .string no] w fun e w' => e = .returned (.tuple #[.string no, .bool false]) ∧ Below w.heap.size w w' := by
 have C0 := Aside0.mk (cut_any s w)
 have C1 := Aside0.mk (name_Key.calls s true w (congrArg some h))
 have C2 := fun W => Aside0.mk (NameW.prefix_any no W)
 have C3 := fun W => Aside0.mk (NameW.delim_any no W)
 rw [show NameW.prefixB no = true by decide] at C2
 rw [show NameW.delimB no = true by decide] at C3
 clear h
 go_enter Tryz.func80, Tryz.ntmps80
 go_wp2_with fail
 refine C0.out.mono ?_
 rintro e w1 ⟨rfl, rfl⟩
 clear C0
 go_wp2_with fail
 refine C1.out.mono ?_
 rintro e w1 ⟨rfl, hb⟩
 have HB1 := Aside0.mk hb
 clear hb C1
 go_wp2_with fail
 refine (C2 _).out.mono ?_
 rintro e w2 ⟨rfl, hb⟩
 have HB2 := Aside0.mk (below_step HB1.out hb)
 clear hb C2 HB1
 go_wp2_with fail
 refine (C3 _).out.mono ?_
 rintro e w3 ⟨rfl, hb⟩
 have HB3 := Aside0.mk (below_step HB2.out hb)
 clear hb C3 HB2
 go_wp2
 go_ret2
 exact ⟨rfl, HB3.out⟩
end Go.Proofs.YtpccbmechgkogaaGreatDoor.PgA
namespace Go.Proofs.YtpccbmechgkogaaGreatDoor.PgSpec
open Go.RowKit Go.Proofs.YtpccbmechgkogaaGreatDoor.P Go.Proofs.YtpccbmechgkogaaGreatDoorW.PrintWords
abbrev V := S63
abbrev E := S79
structure T where
 f0 : ByteArray
 f1 : Bool
def markB (x : E) : Bool := match x.f1 with
 | [] => false
 | v :: _ => v.f2
def tl (l : List E) : List T := (l.filter fun x => !markB x).map fun x => ⟨x.f0, false⟩
def kl (l : List E) : List ByteArray := (tl l).map fun x => x.f0
theorem tl_snoc (l : List E) (x : E) : tl (l ++ [x]) = if markB x = true then tl l else tl l ++ [⟨x.f0, false⟩] := by
 unfold tl
 rw [List.filter_append, List.map_append]
 cases h : markB x <;> simp [h]
theorem tl_len (l : List E) : (tl l).length ≤ l.length := by
 unfold tl
 rw [List.length_map]
 exact List.length_filter_le _ _
theorem tl_mem {l : List E} {u : T} (h : u ∈ tl l) : u.f1 = false ∧ ∃ x ∈ l, u.f0 = x.f0 := by
 obtain ⟨x, hx, rfl⟩ := List.mem_map.1 h
 exact ⟨rfl, x, (List.mem_filter.1 hx).1, rfl⟩
def zT : T := ⟨⟨#[]⟩, false⟩
def kT : Kd T := Kd.iso (Kd.pair Kd.string Kd.bool) (fun x : T => (x.f0, x.f1))
theorem kT_open {w : World} {x : T} {cs : List Value} (h : kT.K w x cs) : cs = [.string x.f0, .bool x.f1] := by
 obtain ⟨_, _, rfl, rfl, rfl⟩ := h
 exact rfl
theorem kT_mkM (w : World) (base : Nat) (ok : Nat → Prop) (x : T) : kT.M w base ok x [.string x.f0, .bool x.f1] := ⟨[.string x.f0], [.bool x.f1], rfl, rfl, rfl⟩
theorem infoT : (Tryz.prog.info? 86).map (fun i => (i.zero, i.size, i.bytes)) = some (some (.agg #[(.string ⟨#[]⟩), (.bool false)]), 2, 24) := by kernel_rfl
def rdT (xs : List T) (i : Int) : T := xs.getD i.toNat zT
theorem atT {w : World} {A : Option Addr} {n : Nat} {xs : List T} (h : Kd.C kT w A n xs) (i : Int) (h0 : 0 ≤ i) (h1 : i < n) : ∃ ad, A = some ad ∧ w.cell? (ad.add (i.toNat * 2)) = some (.string (rdT xs i).f0) ∧ w.cell? ⟨(ad.add (i.toNat * 2)).block, (ad.add (i.toNat * 2)).off + 1, none⟩ = some (.bool (rdT xs i).f1) := by
 obtain ⟨ad, c, e, _, hK, hc0⟩ := Kd.C_get h zT i h0 h1
 have hc : ∀ j u, c[j]? = some u → w.cell? (ad.add (i.toNat * 2 + j)) = some u := hc0
 obtain rfl := kT_open hK
 exact ⟨ad, e, hc 0 _ rfl, by rw [← add_field _ _ 1 (by omega)]; exact hc 1 _ rfl⟩
theorem row_block {w : World} {base : Nat} {ok : Nat → Prop} {v : Value} {xs : List T} (h : Kd.R kT 86 w base ok v xs) (hp : 0 < xs.length) :
  ∃ g cap cs, v = .slice (some ⟨g, 0, none⟩) xs.length cap ∧ base ≤ g ∧ w.heap[g]? = some (.cells cs 86 (0, 0)) ∧ ∀ j (hj : j < xs.length), cs[j * 2]? = some (.string xs[j].f0) ∧ cs[j * 2 + 1]? = some (.bool xs[j].f1) := by
 obtain ⟨g, cap, rfl, h1, h2, cs, h3⟩ := Kd.R_form h hp
 refine ⟨g, cap, cs, rfl, h1, h3, fun j hj => ?_⟩
 obtain ⟨ad, e, c0, c1⟩ := atT (Kd.R_reads' h).2.2 (j : Int) (by omega) (by omega)
 cases e
 have hr : rdT xs (j : Int) = xs[j] := by
  unfold rdT
  rw [Int.toNat_natCast, List.getD_eq_getElem?_getD, List.getElem?_eq_getElem hj]
  rfl
 rw [hr, Int.toNat_natCast] at c0 c1
 constructor
 ·rw [add_plain, blk_cell h3] at c0
  exact c0
 ·rw [add_plain] at c1
  have c1' : w.cell? ⟨g, j * 2 + 1, none⟩ = some (.bool xs[j].f1) := c1
  rw [blk_cell h3] at c1'
  exact c1'
end Go.Proofs.YtpccbmechgkogaaGreatDoor.PgSpec
namespace Go.Proofs.YtpccbmechgkogaaGreatDoor.PgIt
open Go.RowKit Go.Shelf Go.Proofs.YtpccbmechgkogaaGreatDoor.P Go.Proofs.YtpccbmechgkogaaGreatDoorW.PrintWords Go.Proofs.YtpccbmechgkogaaGreatDoorW.PrintLast Go.Proofs.YtpccbmechgkogaaGreatDoorW.PrintMore Go.Proofs.YtpccbmechgkogaaGreatDoor.PureKit Go.Proofs.YtpccbmechgkogaaGreatDoor.PgSpec Go.Proofs.YtpccbmechgkogaaGreatDoor.PgA
attribute [local go_sem] Oper.semAt_some
def Keeps (A B : World) : Prop := A.heap.size ≤ B.heap.size ∧ ∀ (g : Nat) (cs : Array Value), A.heap[g]? = some (Obj.cells cs 86 (0, 0)) → B.heap[g]? = A.heap[g]?
theorem Keeps.refl (A : World) : Keeps A A := ⟨Nat.le_refl _, fun _ _ _ => rfl⟩
theorem Keeps.trans {A B C : World} (h : Keeps A B) (k : Keeps B C) : Keeps A C := ⟨Nat.le_trans h.1 k.1, fun g cs hg => (k.2 g cs ((h.2 g cs hg).trans hg)).trans (h.2 g cs hg)⟩
theorem keeps_b {w : World} (W : World) (l : Nat) (o o' : Obj) (_ : w.heap.size ≤ l) (h : W.heap[l]? = some o) (hc : o.isCells = false) (_ : o.isWalk = false) : Keeps W (W.putObj l o') := by
 refine ⟨by simp, fun g cs hg => ?_⟩
 have hne : g ≠ l := by
  rintro rfl
  rw [h] at hg
  cases hg
  simp [Obj.isCells] at hc
 exact World.putObj_heap_other hne
theorem rd50 (l : List E) (i : Nat) (h : i < l.length) : rd_T79 l (i : Int) = l[i] := by
 unfold rd_T79
 rw [Int.toNat_natCast, List.getD_eq_getElem?_getD, List.getElem?_eq_getElem h]
 rfl
set_option maxRecDepth 100000 in
set_option maxHeartbeats 8000000 in
theorem it_calls (m : Nat) (bl bp bd : Nat) (A : Option Addr) (c : Nat) (l : List E) (lk : Nat) (J Jx : List ByteArray → World → Prop) (W : World)
  (hJa : AbidesFrom W.heap.size J)
  (hY : ∀ p x W1, J p W1 → p.length < (tl l).length → YieldAt Fence.wide m Tryz.prog lk #[.agg #[.string x, .bool false]] W1 fun e W' =>
   (e = .returned (.bool true) ∧ J (p ++ [x]) W' ∧ Keeps W1 W') ∨ (e = .returned (.bool false) ∧ Jx (p ++ [x]) W'))
  (hbl : W.cell? ⟨bl, 0, none⟩ = some (.slice A l.length c)) (hbp : W.cell? ⟨bp, 0, none⟩ = some (.string no)) (hbd : W.cell? ⟨bd, 0, none⟩ = some (.string no))
  (hr : Kd.C k79 W A l.length l) (hn : ∀ x ∈ l, x.f1 ≠ []) (hlen : l.length ≤ 100) (hkey : ∀ x ∈ l, Name.keyB x.f0 = true) (hrise : IdxLaws.Rise l) (h0 : J [] W) :
  Calls Tryz.prog 79 #[.func (.yield lk) #[] #[], .pointer (some ⟨bl, 0, none⟩), .pointer (some ⟨bp, 0, none⟩), .pointer (some ⟨bd, 0, none⟩)] W fun e W' => (∃ v, e = .returned v) ∧
   ((∃ ys, ys = kl l ∧ J ys W') ∨ (∃ p, p <+: kl l ∧ Jx p W')) := by
 have hu50 := Tryz.underlying79
 have hu72 := Tryz.underlying86
 have hu52 := Tryz.underlying63
 go_enter Tryz.func79, Tryz.ntmps79
 go_wp2_with fail
 go_loopg [5, 16] l.length (fun kq v5 v16 w' => ∃ (i : Nat), v16 = .int .i64 (i : Int) ∧ kq + i = l.length ∧ Aside0 (Kd.R kT 86 w' W.heap.size (fun _ => True) v5 (tl (l.take i))) ∧ Aside0 (Below W.heap.size W w'))
 case atStart => exact ⟨0, rfl, rfl, ⟨Kd.R_nil _ _ _ _ _⟩, ⟨Below.refl _ _⟩⟩
 case round =>
  obtain ⟨i, rfl, hki, HO, HB⟩ := hrel
  cases gk with
  | zero =>
   have hi : i = l.length := by omega
   have hc0 : ¬ i < l.length := by omega
   rw [hi, List.take_length] at HO
   clear hki hi
   obtain ⟨A5, c5, rfl⟩ := Kd.R_slice HO.out
   have hrow : ∃ (g : Nat) (cs : Array Value), tl l ≠ [] → A5 = some ⟨g, 0, none⟩ ∧ wr.heap[g]? = some (Obj.cells cs 86 (0, 0)) ∧ ∀ j (hj : j < (tl l).length), cs[j * 2]? = some (.string (tl l)[j].f0) ∧ cs[j * 2 + 1]? = some (.bool (tl l)[j].f1) := by
    by_cases h : tl l = []
    ·exact ⟨0, #[], fun hx => absurd h hx⟩
    ·obtain ⟨g, cap, cs, e, _, hb, hc⟩ := row_block HO.out (List.length_pos_iff.2 h)
     refine ⟨g, cs, fun _ => ⟨?_, hb, hc⟩⟩
     injection e
   obtain ⟨g, cs, hrow⟩ := hrow
   have hJ0 : J [] wr := hJa [] W wr none h0 (grown_of_below HB.out none) (fun r e => by cases e)
   have hBW := HB.out.size
   clear HO HB
   have hfl : ∀ x ∈ tl l, x.f1 = false := fun x hx => (tl_mem hx).1
   have hkl : kl l = (tl l).map fun x => x.f0 := rfl
   generalize hxs : tl l = xs at hrow hY hfl hkl
   go_upto_region 14 with fail
   refine (wpIn_wide (n := m + 1)).1 ?_
   gi_loopw [68] (fun p w2 => ∃ (p1 rest : List T), p = .int .i64 (p1.length : Int) ∧ xs = p1 ++ rest ∧ W.heap.size ≤ w2.heap.size ∧ J (p1.map fun x => x.f0) w2 ∧ (xs ≠ [] → w2.heap[g]? = some (Obj.cells cs 86 (0, 0)))) (fun p w2 => xs.length - (intOf p).toNat)
   case atStart => exact ⟨[], xs, rfl, rfl, hBW, hJ0, fun h => (hrow h).2.1⟩
   case round =>
    obtain ⟨p1, rest, rfl, hx, hBW2, hJs, hb⟩ := hrel
    cases rest with
    | nil =>
     have hc1 : ¬ p1.length < xs.length := by rw [hx]; simp
     gi_wp2
     go_end0
     exact ⟨⟨_, rfl⟩, .inl ⟨_, by rw [hkl, hx]; simp, hJs⟩⟩
    | cons x rest =>
     have hne : xs ≠ [] := by rw [hx]; simp
     obtain ⟨s, g'⟩ := x
     obtain rfl : g' = false := hfl ⟨s, g'⟩ (by rw [hx]; simp)
     obtain ⟨rfl, _, hcs⟩ := hrow hne
     have hb2 := hb hne
     have hp1 : p1.length < xs.length := by rw [hx]; simp
     obtain ⟨hk0, hk1⟩ := hcs p1.length hp1
     have hxe : xs[p1.length] = ⟨s, false⟩ := by
      subst hx
      simp
     rw [hxe] at hk0 hk1
     dsimp only at hk0 hk1
     have hw0 : wr.cell? ⟨g, p1.length * 2, none⟩ = some (.string s) := (blk_cell hb2 _).trans hk0
     have hw1 : wr.cell? ⟨g, p1.length * 2 + 1, none⟩ = some (.bool false) := (blk_cell hb2 _).trans hk1
     have h100 : p1.length < 101 := by
      have h1 := tl_len l
      rw [hxs] at h1
      omega
     have HX := Aside0.mk hx
     have hcl : decide ((p1.length : Int) < (xs.length : Int)) = true := decide_eq_true (by omega)
     clear hx
     have hbw := below_alloc (Below.refl wr.heap.size wr) (Obj.cells #[.string s, .bool false] 86)
     have hJ1 : J (p1.map fun x => x.f0) (wr.alloc (Obj.cells #[.string s, .bool false] 86)) := hJa _ wr _ none hJs (grown_of_below hbw none) (fun r e => by cases e)
     obtain ⟨fn, tmps, assign, body, hy, hR⟩ := hY _ s _ hJ1 (by simpa using hp1)
     gi_wp2
     refine hR.mono ?_
     rintro e W3 (⟨rfl, hJ3, hk3⟩ | ⟨rfl, hJx3⟩)
     ·gi_wp2
      go_roundw
      case rel => exact ⟨p1 ++ [⟨s, false⟩], rest, by simp, by simp [HX.out], Nat.le_trans hBW2 (Nat.le_trans hbw.size hk3.1), by simpa using hJ3, fun _ => (hk3.2 g cs (blk_below hb2 hbw)).trans (blk_below hb2 hbw)⟩
      case measure => simp [intOf]; omega
     ·gi_wp2
      refine bodyPost_ret (results_none rfl _ _ _) rfl ?_
      exact ⟨⟨_, rfl⟩, .inr ⟨_, ⟨rest.map fun x => x.f0, by rw [hkl, HX.out]; simp⟩, hJx3⟩⟩
  | succ k1 =>
   have hi : i < l.length := by omega
   obtain ⟨ad, A1, c1, e, hx0, hx1, hl1, hC1⟩ := at_T79 hr (i : Int) (by omega) (by omega)
   cases e
   rw [rd50 l i hi] at hx0 hx1 hl1 hC1
   rw [Int.toNat_natCast] at hx0 hx1
   have hn1 : l[i].f1.length ≠ 0 := fun h => hn l[i] (List.getElem_mem hi) (List.length_eq_zero_iff.1 h)
   obtain ⟨ad1, e1, hv0, hv1, hv2, hv3⟩ := at_T63 hC1 0 (by omega) (by omega)
   cases e1
   have hc0 : decide ((i : Int) < (l.length : Int)) = true := decide_eq_true (by omega)
   have hc1 : decide (0 ≤ (i : Int)) = true := decide_eq_true (by omega)
   have hx0' := pw_cell_below HB.out hx0
   have hx1' := pw_cell_below HB.out hx1
   go_upto_region 4 with ((with_reducible refine gate_dst (N := 7) rfl ?_); refine box_event ?hg (N := 7) ?hd (cs := #[.string (⟨#[]⟩ : ByteArray), .slice none 0 0]) (t := 79) ?hr ?_; (case hd => rfl); (case hg => rfl); (case hr => first | (go_simp; done) | (go_simp; rfl)); intro gx hgx w7 hbox hb7; have hfz0 := blk_frozen hbox 0; have hfz1 := blk_frozen hbox 1; have hcz0 : w7.cell? ⟨gx, 0, none⟩ = some (.string (⟨#[]⟩ : ByteArray)) := (blk_cell hbox 0).trans rfl; have hcz1 : w7.cell? ⟨gx, 1, none⟩ = some (.slice none 0 0) := (blk_cell hbox 1).trans rfl; have HB7 := Aside0.mk (below_step HB.out hb7); have HX := Aside0.mk hbox; have HBR := Aside0.mk hb7; have GX := Aside0.mk (hgx.symm ▸ Nat.le_refl _ : wr.heap.size ≤ gx); clear hbox hb7 hgx)
   have hle : W.heap.size ≤ gx := Nat.le_trans HB.out.size GX.out
   have n0 := Aside0.mk ((HB7.out.setCell (p := ⟨gx, 0, none⟩) hle (.string l[i].f0)).setCell (p := ⟨gx, 1, none⟩) hle (.slice (some ad1) l[i].f1.length c1))
   have n1 := Aside0.mk ((HBR.out.setCell (p := ⟨gx, 0, none⟩) GX.out (.string l[i].f0)).setCell (p := ⟨gx, 1, none⟩) GX.out (.slice (some ad1) l[i].f1.length c1))
   have n2 : Aside0 (((w7.setCell ⟨gx, 0, none⟩ (.string l[i].f0)).setCell ⟨gx, 1, none⟩ (.slice (some ad1) l[i].f1.length c1)).heap[gx]? = some (Obj.cells #[.string l[i].f0, .slice (some ad1) l[i].f1.length c1] 79 (0, 0))) := ⟨blk_set (blk_set HX.out 0 _) 1 _⟩
   generalize (w7.setCell ⟨gx, 0, none⟩ (.string l[i].f0)).setCell ⟨gx, 1, none⟩ (.slice (some ad1) l[i].f1.length c1) = w8 at n0 n1 n2 ⊢
   clear HB7 HBR HX hfz0 hfz1 hcz0 hcz1 hx0' hx1' hx0 hx1
   have hm : markB l[i] = (rd_T63 l[i].f1 0).f2 := by
    unfold markB rd_T63
    cases hq : l[i].f1 with
    | nil => rw [hq] at hn1; exact absurd rfl hn1
    | cons y r => rfl
   rw [← hm] at hv2
   simp [show ad1.add 0 = ad1 by simp [Addr.add]] at hv2
   clear hm
   have h80 : w8.cell? ⟨gx, 0, none⟩ = some (.string l[i].f0) := (blk_cell n2.out 0).trans rfl
   have h8p := pw_cell_below n0.out hbp
   have hacc : tl (l.take (i + 1)) = if markB l[i] = true then tl (l.take i) else tl (l.take i) ++ [⟨l[i].f0, false⟩] := by rw [List.take_succ_eq_append_getElem hi, tl_snoc]
   by_cases hM : markB l[i] = true
   ·go_wp2_with (go_at_call 37; refine (under_any l[i].f0 w8).mono ?_; rintro e w9 ⟨rfl, rfl⟩; have m0 := n0; have m1 := n1; have m2 := n2; have h91 : w9.cell? ⟨gx, 1, none⟩ = some (.slice (some ad1) l[i].f1.length c1) := (blk_cell m2.out 1).trans rfl; have h90 : w9.cell? ⟨gx, 0, none⟩ = some (.string l[i].f0) := (blk_cell m2.out 0).trans rfl; have h9m := pw_cell_below m0.out hv2)
    go_roundg k1
    case measure => omega
    case rel =>
     refine ⟨i + 1, by simp, by omega, ⟨?_⟩, m0⟩
     rw [hacc, if_pos hM]
     exact Kd.R_below HO.out m1.out
   ·rw [Bool.not_eq_true] at hM
    rw [if_neg (by rw [hM]; simp)] at hacc
    go_upto_region 5 with (go_at_call 37; refine (under_any l[i].f0 w8).mono ?_; rintro e w9 ⟨rfl, rfl⟩; have m0 := n0; have m1 := n1; have m2 := n2; have h91 : w9.cell? ⟨gx, 1, none⟩ = some (.slice (some ad1) l[i].f1.length c1) := (blk_cell m2.out 1).trans rfl; have h90 : w9.cell? ⟨gx, 0, none⟩ = some (.string l[i].f0) := (blk_cell m2.out 0).trans rfl; have h9m := pw_cell_below m0.out hv2)
    clear h80 h8p
    go_upto_region 6 with ((with_reducible refine gate_dst (N := 8) rfl ?_); refine box_event ?hg (N := 8) ?hd (cs := #[.string (⟨#[]⟩ : ByteArray), .bool false]) (t := 86) ?hr ?_; (case hd => rfl); (case hg => rfl); (case hr => first | (go_simp; done) | (go_simp; rfl)); intro gt hgt w10 hbox hb10; have hfz0 := blk_frozen hbox 0; have hfz1 := blk_frozen hbox 1; have hcz0 : w10.cell? ⟨gt, 0, none⟩ = some (.string (⟨#[]⟩ : ByteArray)) := (blk_cell hbox 0).trans rfl; have hcz1 : w10.cell? ⟨gt, 1, none⟩ = some (.bool false) := (blk_cell hbox 1).trans rfl; have o0 := Aside0.mk (below_step m0.out hb10); have o1 := Aside0.mk (below_step m1.out hb10); have o2 := Aside0.mk (blk_below m2.out hb10); have HT := Aside0.mk hbox; have GT := Aside0.mk (hgt.symm ▸ Nat.le_refl _ : w9.heap.size ≤ gt); have NE := Aside0.mk (hgt.symm ▸ Nat.ne_of_lt (blk_lt m2.out) : gx ≠ gt); have h100 : w10.cell? ⟨gx, 0, none⟩ = some (.string l[i].f0) := (blk_cell o2.out 0).trans rfl; clear hbox hb10 hgt)
    clear hfz0 hfz1 hcz0 hcz1 h100 h90 h91 h9m m2
    have hlt : wr.heap.size ≤ gt := Nat.le_trans m1.out.size GT.out
    have hlt0 : W.heap.size ≤ gt := Nat.le_trans HB.out.size hlt
    have q0 := Aside0.mk ((o0.out.setCell (p := ⟨gt, 0, none⟩) hlt0 (.string l[i].f0)).setCell (p := ⟨gt, 1, none⟩) hlt0 (.bool false))
    have q1 := Aside0.mk ((o1.out.setCell (p := ⟨gt, 0, none⟩) hlt (.string l[i].f0)).setCell (p := ⟨gt, 1, none⟩) hlt (.bool false))
    have q2 : Aside0 (((w10.setCell ⟨gt, 0, none⟩ (.string l[i].f0)).setCell ⟨gt, 1, none⟩ (.bool false)).heap[gt]? = some (Obj.cells #[.string l[i].f0, .bool false] 86 (0, 0))) := ⟨blk_set (blk_set HT.out 0 _) 1 _⟩
    have q3 := Aside0.mk (blk_far (blk_far o2.out (p := ⟨gt, 0, none⟩) NE.out (.string l[i].f0)) (p := ⟨gt, 1, none⟩) NE.out (.bool false))
    generalize (w10.setCell ⟨gt, 0, none⟩ (.string l[i].f0)).setCell ⟨gt, 1, none⟩ (.bool false) = w11 at q0 q1 q2 q3 ⊢
    clear o0 o1 o2 HT m0 m1 n0 n1 n2
    have h11k : w11.cell? ⟨gx, 0, none⟩ = some (.string l[i].f0) := (blk_cell q3.out 0).trans rfl
    have h11p := pw_cell_below q0.out hbp
    have h11d := pw_cell_below q0.out hbd
    go_cut [9, 10] (fun v9 v10 wc => Aside0 (v9 = .string no) ∧ Aside0 (v10 = .bool false) ∧ Aside0 (wc.heap[gt]? = some (Obj.cells #[.string l[i].f0, .bool false] 86 (0, 0))) ∧ Aside0 (Below W.heap.size W wc) ∧ Aside0 (Below wr.heap.size wr wc))
    case first =>
     go_wp2_with (go_at_call 80; refine (group_any l[i].f0 w11 (hkey _ (List.getElem_mem hi))).mono ?_; rintro e w12 ⟨rfl, hd⟩; have r0 := Aside0.mk (below_step q0.out hd); have r1 := Aside0.mk (below_step q1.out hd); have r2 := Aside0.mk (blk_below q2.out hd); clear hd)
     go_meet
     case rel => exact ⟨⟨rfl⟩, ⟨rfl⟩, r2, r0, r1⟩
    clear q0 q1 q2 q3 h11k h11p h11d
    obtain ⟨hv9, hv10, r2, r0, r1⟩ := hcut
    cases hv9.out
    cases hv10.out
    clear hv9 hv10
    obtain ⟨t, hte⟩ : ∃ t : T, t = ⟨l[i].f0, false⟩ := ⟨_, rfl⟩
    rw [← hte] at hacc
    have hne : ∀ u ∈ tl (l.take i), (u.f0.toList == t.f0.toList) = false := fun u hu => by
     obtain ⟨_, x, hx, e⟩ := tl_mem hu
     obtain ⟨j, hj, rfl⟩ := List.getElem_of_mem hx
     have hj2 : j < i := by rw [List.length_take] at hj; omega
     have hlt := List.pairwise_iff_getElem.1 hrise j i (by omega) hi hj2
     rw [beq_eq_false_iff_ne]
     intro he
     rw [hte, e, List.getElem_take] at he
     have hi2 := IdxSpec.lt_irrefl l[j].f0
     rw [IdxSpec.lt_congr rfl he] at hi2
     rw [hi2] at hlt
     cases hlt
    have r2 : Aside0 (wc.heap[gt]? = some (Obj.cells #[.string t.f0, .bool t.f1] 86 (0, 0))) := ⟨by rw [hte]; exact r2.out⟩
    have ht0 : wc.cell? ⟨gt, 0, none⟩ = some (.string t.f0) := (blk_cell r2.out 0).trans rfl
    have ht1 : wc.cell? ⟨gt, 1, none⟩ = some (.bool t.f1) := (blk_cell r2.out 1).trans rfl
    clear hte
    have HO1 := Kd.R_below HO.out r1.out
    obtain ⟨A5, c5, rfl⟩ := Kd.R_slice HO1
    have hal : (tl (l.take i)).length ≤ 100 := Nat.le_trans (tl_len ..) (by simp; omega)
    generalize tl (l.take i) = acc at *
    go_upto_region 10 with fail
    rcases List.eq_nil_or_concat acc with rfl | ⟨init, u, rfl⟩
    ·go_quiet (fail)
     have HO2 := Aside0.mk (Kd.R_drewN HO1 nq)
     have s0 := Aside0.mk (pw_below_drewN r0.out nq)
     have s2 : Aside0 ((wc.drewN nq).heap[gt]? = _) := ⟨r2.out⟩
     have ht0 : (wc.drewN nq).cell? ⟨gt, 0, none⟩ = some (.string t.f0) := (blk_cell s2.out 0).trans rfl
     have ht1 : (wc.drewN nq).cell? ⟨gt, 1, none⟩ = some (.bool t.f1) := (blk_cell s2.out 1).trans rfl
     clear HO1 r0 r1 r2
     generalize wc.drewN nq = wd at *
     go_wp2_with ((with_reducible refine gate_builtin (b := .append) (xs := #[.tmp 61, .tmp 63]) rfl ?_); at_builtin; refine Kd.R_append kT (w0 := W) W.heap.size rfl (.tmp 61) (.tmp 63) 137 86 (.agg #[(.string ⟨#[]⟩), (.bool false)]) 24 rfl Tryz.underlying137 infoT rfl (by decide) (by omega) (.slice A5 ([] : List T).length c5) [] t [.string t.f0, .bool t.f1] (fun _ => True) (fun _ => False) rfl rfl ?aP (fun _ hk => hk.elim) ?aF ?aO ?aB ?aS ?aL ?_; (case aP => exact kT_mkM _ _ _ t); (case aB => exact s0.out); (case aF => exact (fun _ _ => trivial)); (case aO => exact HO2.out); (case aS => exact s0.out.size); (case aL => first | (simp; done) | (simp; omega)); intro v1 w13 ho hb hg hat; have z0 := Aside0.mk ho; have z1 := Aside0.mk hb; clear ho hb hg hat)
     go_roundg k1
     case measure => omega
     case rel =>
      refine ⟨i + 1, by simp, by omega, ⟨?_⟩, z1⟩
      rw [hacc]
      exact z0.out
    ·have hlen2 : (init.concat u).length = init.length + 1 := by simp
     obtain ⟨a5, e5, hu0, hu1⟩ := atT (Kd.R_reads' HO1).2.2 (init.length : Int) (by omega) (by omega)
     cases e5
     have hru : rdT (init.concat u) (init.length : Int) = u := by
      unfold rdT
      rw [Int.toNat_natCast, List.getD_eq_getElem?_getD]
      simp
     rw [hru, Int.toNat_natCast] at hu0
     clear hru hu1
     rw [hlen2]
     have hd0 : ((init.length : Int) + 1 == 0) = false := beq_eq_false_iff_ne.mpr (by omega)
     rw [hlen2] at hal
     have hut := hne u (by simp)
     have hut' : (u.f0.toList != t.f0.toList) = true := by rw [bne, hut]; rfl
     rw [hlen2] at HO1
     go_quiet (fail)
     have HO2 := Aside0.mk (Kd.R_drewN HO1 nq)
     have s0 := Aside0.mk (pw_below_drewN r0.out nq)
     have s2 : Aside0 ((wc.drewN nq).heap[gt]? = _) := ⟨r2.out⟩
     have ht0 : (wc.drewN nq).cell? ⟨gt, 0, none⟩ = some (.string t.f0) := (blk_cell s2.out 0).trans rfl
     have ht1 : (wc.drewN nq).cell? ⟨gt, 1, none⟩ = some (.bool t.f1) := (blk_cell s2.out 1).trans rfl
     clear HO1 r0 r1 r2
     generalize wc.drewN nq = wd at *
     go_wp2_with ((with_reducible refine gate_builtin (b := .append) (xs := #[.tmp 61, .tmp 63]) rfl ?_); at_builtin; refine Kd.R_append kT (w0 := W) W.heap.size rfl (.tmp 61) (.tmp 63) 137 86 (.agg #[(.string ⟨#[]⟩), (.bool false)]) 24 rfl Tryz.underlying137 infoT rfl (by decide) (by omega) (.slice (some a5) (init.length + 1) c5) (init.concat u) t [.string t.f0, .bool t.f1] (fun _ => True) (fun _ => False) rfl rfl ?aP (fun _ hk => hk.elim) ?aF ?aO ?aB ?aS ?aL ?_; (case aP => exact kT_mkM _ _ _ t); (case aB => exact s0.out); (case aF => exact (fun _ _ => trivial)); (case aO => exact HO2.out); (case aS => exact s0.out.size); (case aL => simp; omega); intro v1 w13 ho hb hg hat; have z0 := Aside0.mk ho; have z1 := Aside0.mk hb; clear ho hb hg hat)
     go_roundg k1
     case measure => omega
     case rel =>
      refine ⟨i + 1, by simp, by omega, ⟨?_⟩, z1⟩
      rw [hacc]
      skip
      exact z0.out
end Go.Proofs.YtpccbmechgkogaaGreatDoor.PgIt
