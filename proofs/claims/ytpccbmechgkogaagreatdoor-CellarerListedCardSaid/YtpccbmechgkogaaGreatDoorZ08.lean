/-
  Lemmas: VerV, VerF, Px19d, Info, Clone, Px19e, Px19f, Get, IAt.
-/
import Derived.LoopTactic
import Derived.Outline
import Derived.Test.YtpccbmechgkogaaGreatDoorProg
import Derived.Lib.SliceRun
import Derived.Test.YtpccbmechgkogaaGreatDoorV0
import Derived.Test.YtpccbmechgkogaaGreatDoorZ00
import Derived.Test.YtpccbmechgkogaaGreatDoorZ01
import Derived.Test.YtpccbmechgkogaaGreatDoorZ02
import Derived.Test.YtpccbmechgkogaaGreatDoorZ03
import Derived.Test.YtpccbmechgkogaaGreatDoorZ05
import Derived.Test.YtpccbmechgkogaaGreatDoorZ07
set_option linter.unusedVariables false
set_option linter.unusedSimpArgs false
namespace Go.Proofs.YtpccbmechgkogaaGreatDoor.VerV
open Go.RowKit Go.Proofs.YtpccbmechgkogaaGreatDoor.P Go.Proofs.YtpccbmechgkogaaGreatDoorW.PrintWords Go.Proofs.YtpccbmechgkogaaGreatDoor.IdxV
set_option maxRecDepth 100000 in
set_option maxHeartbeats 1600000 in
theorem index_any (g : Nat) (lb : Array Value) (eg : ∀ args w, (callFunc g args).run Tryz.prog w = .ok (.enter g args) w) (p : S63 → Bool) (A : Option Addr) (c : Nat) (l : List S63) (w : World)
  (hr : Kd.C k63 w A l.length l) (hg : Tells g lb p w l) :
  Calls Tryz.prog 90 #[.slice A l.length c, .func (.func g) #[] lb] w (IdxPost w (idx p l)) := by
 have HR := Aside0.mk hr
 have HG := Aside0.mk hg
 have hm : l.length ≤ 9223372036854775807 := hr.2.1
 clear hr hg
 have hu := Tryz.underlying63
 go_enter Tryz.func90, Tryz.ntmps90
 go_wp2
 go_loopw [8] (fun i wr => ∃ k : Nat, k ≤ l.length ∧ i = .int .i64 k ∧ Aside0 (∀ j (h : j < l.length), j < k → p l[j] = false) ∧ Aside0 (Below w.heap.size w wr)) (fun i _ => l.length - (intOf i).toNat)
 case atStart => exact ⟨0, by omega, rfl, ⟨fun j _ h => absurd h (Nat.not_lt_zero _)⟩, ⟨Below.refl _ _⟩⟩
 case round =>
  obtain ⟨k, hk, rfl, HA, HB⟩ := hrel
  by_cases hlt : k < l.length
  ·obtain ⟨ad, e0, h0, h1, h2, h3⟩ := at_T63 (Kd.C_below HR.out HB.out) (k : Int) (by omega) (by omega)
   have hx : rd_T63 l (k : Int) = l[k] := by unfold rd_T63; rw [Int.toNat_natCast, List.getD_eq_getElem?_getD, List.getElem?_eq_getElem hlt]; rfl
   rw [hx] at h0 h1 h2 h3
   rw [Int.toNat_natCast] at h0 h1 h2 h3
   cases e0
   have hcall := HG.out wr l[k] (List.getElem_mem hlt) HB.out
   have HX := Aside0.mk hx
   clear hx
   generalize hq : p l[k] = q at hcall
   have HQ := Aside0.mk hq
   clear hq
   cases q with
   | true =>
    go_wp2_with fail
    refine hcall.mono ?_
    rintro e w2 ⟨rfl, hb'⟩
    have HB2 := Aside0.mk hb'
    clear hb'
    go_wp2
    go_ret
    exact ⟨congrArg (fun z => Ending.returned (Value.int .i64 z)) (idx_hit p l k hlt HQ.out HA.out).symm, below_step HB.out HB2.out⟩
   | false =>
    go_wp2_with fail
    refine hcall.mono ?_
    rintro e w2 ⟨rfl, hb'⟩
    have HB2 := Aside0.mk hb'
    clear hb'
    go_wp2
    refine ⟨⟨k + 1, by omega, by go_num, ⟨fun j h hj => ?_⟩, ⟨below_step HB.out HB2.out⟩⟩, by simp [intOf]; omega⟩
    by_cases e : j = k
    ·subst e; exact HQ.out
    ·exact HA.out j h (by omega)
  ·have hk2 : k = l.length := by omega
   subst hk2
   go_wp2
   go_ret
   exact ⟨congrArg (fun z => Ending.returned (Value.int .i64 z)) (idx_miss p l (fun j h => HA.out j h h)).symm, HB.out⟩
set_option maxRecDepth 100000 in
set_option maxHeartbeats 1600000 in
theorem contains_any (g : Nat) (lb : Array Value) (eg : ∀ args w, (callFunc g args).run Tryz.prog w = .ok (.enter g args) w) (p : S63 → Bool) (A : Option Addr) (c : Nat) (l : List S63) (w : World)
  (hr : Kd.C k63 w A l.length l) (hg : Tells g lb p w l) :
  Calls Tryz.prog 176 #[.slice A l.length c, .func (.func g) #[] lb] w fun e w' => e = .returned (.bool (l.any p)) ∧ Below w.heap.size w w' := by
 have C := index_any g lb eg p A c l w hr hg
 rw [← idx_any]
 clear hr hg eg
 go_enter Tryz.func176, Tryz.ntmps176
 go_wp2_with fail
 refine C.mono ?_
 rintro e w1 ⟨rfl, hb⟩
 have HB := Aside0.mk hb
 clear hb C
 go_wp2
 go_ret
 exact ⟨rfl, HB.out⟩
end Go.Proofs.YtpccbmechgkogaaGreatDoor.VerV
namespace Go.Proofs.YtpccbmechgkogaaGreatDoor.VerF
open Go.RowKit Go.Proofs.YtpccbmechgkogaaGreatDoor.P Go.Proofs.YtpccbmechgkogaaGreatDoorW.PrintWords Go.Proofs.YtpccbmechgkogaaGreatDoor.IdxV Go.Proofs.YtpccbmechgkogaaGreatDoor.VerV
set_option maxRecDepth 100000 in
set_option maxHeartbeats 1600000 in
theorem same_id (x : S63) (b : Nat) (id : Int) (W : World) (hc : W.cell? ⟨b, 0, none⟩ = some (.int .u64 id)) :
  Calls Tryz.prog 91 #[ver x, .pointer (some ⟨b, 0, none⟩)] W fun e w' => e = .returned (.bool (x.f0 == id)) ∧ Below W.heap.size W w' := by
 have hu := Tryz.underlying63
 unfold ver
 have hb : Below W.heap.size W (W.alloc (.cells #[.int .u64 x.f0, .string x.f1, .bool x.f2, .int .i64 x.f3] 63)) := (Below.refl _ _).alloc (Nat.le_refl _) _
 have hc2 := (hb.cell (World.block_lt_of_cell? _ _ hc)).trans hc
 clear hb
 go_enter Tryz.func91, Tryz.ntmps91
 go_wp2
 go_ret
 exact ⟨rfl, (Below.refl _ _).alloc (Nat.le_refl _) _⟩
set_option maxRecDepth 100000 in
set_option maxHeartbeats 1600000 in
theorem find_any (A : Option Addr) (c : Nat) (l : List S63) (id : Int) (w : World) (hr : Kd.C k63 w A l.length l) :
  Calls Tryz.prog 45 #[.slice A l.length c, .int .u64 id] w fun e w' => e = .returned (.int .i64 (idx (fun x => x.f0 == id) l)) ∧ Below w.heap.size w w' := by
 go_enter Tryz.func45, Tryz.ntmps45
 go_wp2_with fail
 have HB0 : Below w.heap.size w (w.alloc (.cells #[.int .u64 id] 26)) := (Below.refl _ _).alloc (Nat.le_refl _) _
 refine (VerV.index_any 91 #[.pointer (some ⟨w.heap.size, 0, none⟩)] (fun _ _ => rfl) (fun x => x.f0 == id) A c l _ (Kd.C_alloc hr _) (fun W x hx hB => same_id x _ id W ?_)).mono ?_
 ·have hcell : (w.alloc (.cells #[.int .u64 id] 26)).cell? ⟨w.heap.size, 0, none⟩ = some (.int .u64 id) := World.cell?_alloc_at _ _ w.heap.size 0 rfl
  exact (hB.cell (World.block_lt_of_cell? _ _ hcell)).trans hcell
 ·rintro e w1 ⟨rfl, hb⟩
  have HB := Aside0.mk (below_step HB0 hb)
  clear hb HB0
  go_wp2
  go_ret
  exact ⟨rfl, HB.out⟩
end Go.Proofs.YtpccbmechgkogaaGreatDoor.VerF
namespace Go.Proofs.YtpccbmechgkogaaGreatDoor.P
open Go.RowKit Go.Proofs.YtpccbmechgkogaaGreatDoorW.PrintWords Go.Proofs.YtpccbmechgkogaaGreatDoorW.PrintLast Go.Proofs.YtpccbmechgkogaaGreatDoorW.PrintMore
attribute [local go_sem] max2_int min2_int max_two min_two max_three min_three max_four min_four
def index_find.f (l0 : List (S79)) (a1 : ByteArray) : Option (Int) := some (Go.Proofs.YtpccbmechgkogaaGreatDoor.IdxE.idx (Go.Proofs.YtpccbmechgkogaaGreatDoor.IdxE.has a1) l0)
theorem index_find.calls (A0 : Option Addr) (c0 : Nat) (l0 : List (S79)) (a1 : ByteArray) (r : Int) (w : World) (hr0 : Kd.C k79 w A0 l0.length l0) (hc0 : l0.length ≤ c0) (h : index_find.f l0 a1 = some r) :
  Calls Tryz.prog 46 #[.slice A0 l0.length c0, .string a1] w fun e w' => e = .returned (.int .i64 r) ∧ Below w.heap.size w w' := by
 obtain rfl := Option.some.inj h
 exact Go.Proofs.YtpccbmechgkogaaGreatDoor.IdxE.find_any A0 c0 l0 a1 w hr0
end Go.Proofs.YtpccbmechgkogaaGreatDoor.P
namespace Go.Proofs.YtpccbmechgkogaaGreatDoor.P
open Go.RowKit
theorem info63 : (Tryz.prog.info? 63).map (fun i => (i.zero, i.size, i.bytes)) = some (some (.agg #[(.int .u64 0), (.string ⟨#[]⟩), (.bool false), (.int .i64 0)]), 4, 40) := by kernel_rfl
theorem info79 : (Tryz.prog.info? 79).map (fun i => (i.zero, i.size, i.bytes)) = some (some (.agg #[(.string ⟨#[]⟩), (.slice none 0 0)]), 2, 40) := by kernel_rfl
end Go.Proofs.YtpccbmechgkogaaGreatDoor.P
namespace Go.Proofs.YtpccbmechgkogaaGreatDoor.Clone
open Go.RowKit Go.Proofs.YtpccbmechgkogaaGreatDoor.P Go.Proofs.YtpccbmechgkogaaGreatDoorW.PrintWords
def Post (w : World) (l : List S63) (e : Ending) (w' : World) : Prop := ∃ v0_ : Value, e = .returned v0_ ∧ Kd.R k63 63 w' w.heap.size (fun _ => True) v0_ l ∧ Below w.heap.size w w'
set_option maxRecDepth 100000 in
set_option maxHeartbeats 1600000 in
theorem clone_any (A : Option Addr) (c : Nat) (l : List S63) (w : World) (hr : Kd.C k63 w A l.length l) (hl : l.length < 3518437208883) :
  Calls Tryz.prog 47 #[.slice A l.length c] w (Post w l) := by
 have qT : ∀ (w : World) (a : Option Addr) (n c n' c' : Nat), (binOp .eql 66 (.slice a n c) (.slice none n' c')).run Tryz.prog w = .ok (.bool a.isNone) w := fun w a n c n' c' => Lib.run_eql_slice_nil w _ _ a n c n' c' Tryz.underlying66
 cases A with
 | none =>
  have h0 : l = [] := by
   rcases l with _ | ⟨x, r⟩
   ·rfl
   ·obtain ⟨ad, h, _⟩ := hr.2.2 (by simp)
    cases h
  subst h0
  clear hr hl
  go_enter Tryz.func47, Tryz.ntmps47
  go_wp2
  go_ret
  exact ⟨_, rfl, Kd.R_nil _ _ _ _ _, Below.refl _ _⟩
 | some ad =>
  have HR := Aside0.mk hr
  clear hr
  have hu := Tryz.underlying63
  go_enter Tryz.func47, Tryz.ntmps47
  have HL := Aside0.mk hl
  clear hl
  go_wp2_with (first
   | ((with_reducible refine gate_dst (N := 5) rfl ?_); refine Kd.R_lit (w0 := w) k63 w.heap.size 63 ?hg (N := 5) ?hd (xs := []) (inner := []) (ok := fun _ => True) (okp := fun _ => False) ?hr ?hp (fun _ h => h.elim) trivial (Below.refl _ _) (Nat.le_refl _) (by simp) ?_; (case hd => rfl); (case hg => rfl); (case hr => first | (go_simp; done) | (go_simp; rfl)); (case hp => exact Reps.none _ _); intro v1 w1 ho hb hg hat; have HO := Aside0.mk ho; have HB := Aside0.mk hb; clear ho hb hg hat)
   | ((with_reducible refine gate_builtin (b := .append) (xs := #[.tmp 5, .tmp 6]) rfl ?_); at_builtin; refine Kd.R_append_rows k63 (w0 := w) w.heap.size rfl (.tmp 5) (.tmp 6) 66 63 (.agg #[(.int .u64 0), (.string ⟨#[]⟩), (.bool false), (.int .i64 0)]) 40 rfl Tryz.underlying66 info63 rfl (by decide) (by omega) v1 [] l _ _ _ (fun _ => True) (fun _ => False) rfl rfl ?aO ?aR (fun _ _ h => h) (fun _ h => h.elim) ?aF ?aB ?aS ?aL ?_; (case aR => exact Kd.C_below HR.out HB.out); (case aB => exact HB.out); (case aF => exact (fun _ _ => trivial)); (case aO => exact HO.out); (case aS => exact HB.out.size); (case aL => have := HL.out; simp; omega); intro v2 w2 ho hb hg hat; have HO2 := Aside0.mk ho; have HB2 := Aside0.mk hb; clear HO HB; clear ho hb hg hat))
  go_ret
  exact ⟨_, rfl, HO2.out, HB2.out⟩
end Go.Proofs.YtpccbmechgkogaaGreatDoor.Clone
namespace Go.Proofs.YtpccbmechgkogaaGreatDoor.P
open Go.RowKit Go.Proofs.YtpccbmechgkogaaGreatDoorW.PrintWords Go.Proofs.YtpccbmechgkogaaGreatDoorW.PrintLast Go.Proofs.YtpccbmechgkogaaGreatDoorW.PrintMore
attribute [local go_sem] max2_int min2_int max_two min_two max_three min_three max_four min_four
def api_Version_47.f (l0 : List (S63)) : Option (List (S63)) := if l0.length < 3518437208883 then some l0 else none
theorem api_Version_47.calls (A0 : Option Addr) (c0 : Nat) (l0 : List (S63)) (r : List (S63)) (w : World) (hr0 : Kd.C k63 w A0 l0.length l0) (hc0 : l0.length ≤ c0) (h : api_Version_47.f l0 = some r) :
  Calls Tryz.prog 47 #[.slice A0 l0.length c0] w fun e w' => ∃ v0_ : Value, e = .returned (v0_) ∧ Kd.R k63 63 w' w.heap.size (fun _ => True) v0_ r ∧ Below w.heap.size w w' := by
 unfold api_Version_47.f at h
 split at h
 ·rename_i hl
  obtain rfl := Option.some.inj h
  exact Go.Proofs.YtpccbmechgkogaaGreatDoor.Clone.clone_any A0 c0 l0 w hr0 hl
 ·cases h
end Go.Proofs.YtpccbmechgkogaaGreatDoor.P
namespace Go.Proofs.YtpccbmechgkogaaGreatDoor.P
open Go.RowKit Go.Proofs.YtpccbmechgkogaaGreatDoorW.PrintWords Go.Proofs.YtpccbmechgkogaaGreatDoorW.PrintLast Go.Proofs.YtpccbmechgkogaaGreatDoorW.PrintMore
attribute [local go_sem] max2_int min2_int max_two min_two max_three min_three max_four min_four
def index_Get.f (l0 : List (S79)) (a1 : ByteArray) : Option ((List (S63))) := (index_find.f l0 a1).bind fun t281 => (if t281 < 0 then (some ([] : List (S63))) else (if 0 ≤ t281 then (if t281 < (l0.length : Int) then ((api_Version_47.f ((rd_T79 l0 t281).f1)).bind fun t283 => (some t283)) else (none)) else (none)))
set_option maxHeartbeats 8000000 in
set_option maxRecDepth 100000 in
theorem index_Get.calls (A0 : Option Addr) (c0 : Nat) (l0 : List (S79)) (a1 : ByteArray) (r : List (S63)) (w : World) (hr0 : Kd.C k79 w A0 l0.length l0) (hc0 : l0.length ≤ c0) (h : index_Get.f l0 a1 = some r) :
  Calls Tryz.prog 15 #[.slice A0 l0.length c0, .string a1] w fun e w' => ∃ v0_ : Value, e = .returned (v0_) ∧ Kd.R k63 63 w' w.heap.size (fun _ => True) v0_ r ∧ Below w.heap.size w w' := by
 have HR0 := Aside0.mk hr0
 have HC0 := Aside0.mk hc0
 clear hr0 hc0
 have HB := Aside0.mk (Below.refl w.heap.size w)
 have H : ((index_find.f l0 a1).bind fun t281 => (if t281 < 0 then (some ([] : List (S63))) else (if 0 ≤ t281 then (if t281 < (l0.length : Int) then ((api_Version_47.f ((rd_T79 l0 t281).f1)).bind fun t283 => (some t283)) else (none)) else (none)))) = some r := h
 clear h
 replace H := Option.bind_eq_some_iff.mp H
 obtain ⟨t281, A30, H⟩ := H
 replace H : (if t281 < 0 then (some ([] : List (S63))) else (if 0 ≤ t281 then (if t281 < (l0.length : Int) then ((api_Version_47.f ((rd_T79 l0 t281).f1)).bind fun t283 => (some t283)) else (none)) else (none))) = some r := H
 have A3 := Aside0.mk A30
 clear A30
 by_cases c4 : t281 < 0
 ·rw [if_pos c4] at H
  have c4b0 : decide (t281 < 0) = true := decide_eq_true c4
  clear c4
  obtain rfl := Option.some.inj H
  go_enter Tryz.func15, Tryz.ntmps15
  go_wp2_with (first | ((with_reducible refine gate_callee (f := 46) rfl ?_); refine goesL_ (some 8) rfl rfl Tryz.func46 (by kernel_rfl) rfl #[.slice A0 l0.length c0, .string a1] rfl (by (try simp only [List.map_toArray, List.map_cons, List.map_nil]); first | done | rfl | (simp only [List.length_drop, List.length_take]; rfl)) ?_; (with_reducible refine (index_find.calls _ _ l0 a1 t281 _ ?side1 ?side2 A3.out).mono ?_); (case side1 => repeat (first | exact HR0.out | (with_reducible refine Kd.C_alloc ?_ _) | (with_reducible refine Kd.C_drewN ?_ _) | (with_reducible refine Kd.C_drew ?_))); (case side2 => exact HC0.out); rintro e w5 ⟨rfl, hb⟩; refine ⟨_, rfl, ?_⟩; have n0_ := Aside0.mk (below_step (by repeat (first | (with_reducible first | exact HB.out | apply below_alloc | apply pw_below_drewN | apply below_drew1) | exact HB.out)) hb); clear HB; have HB := n0_; clear n0_; (try clear hb); (try clear hb2); (try clear hk); (try clear hi)))
  go_ret
  exact ⟨_, by first | rfl | (simp [errW_none, errW_some] <;> rfl) | (simp [*, errW_none, errW_some] <;> rfl), by first | exact Kd.R_nil _ _ _ _ _ | exact Kd.N_nil _ _ _ _ _ | exact Kd.V_nil _ _ _ _ _ | exact Kd.Q_nil _ _ _ _ _ | exact Kd.S_nil _ _ _ _ _, by repeat (first | (with_reducible first | exact HB.out | apply below_alloc | apply pw_below_drewN | apply below_drew1) | exact HB.out)⟩
 ·rw [if_neg c4] at H
  have c4b0 : decide (t281 < 0) = false := decide_eq_false c4
  clear c4
  by_cases c6 : 0 ≤ t281
  ·rw [if_pos c6] at H
   have c6b0 : decide (0 ≤ t281) = true := decide_eq_true c6
   clear c6
   by_cases c7 : t281 < (l0.length : Int)
   ·rw [if_pos c7] at H
    have c7b0 : decide (t281 < (l0.length : Int)) = true := decide_eq_true c7
    clear c7
    replace H := Option.bind_eq_some_iff.mp H
    obtain ⟨t283, A80, H⟩ := H
    replace H : (some t283) = some r := H
    have A8 := Aside0.mk A80
    clear A80
    obtain rfl := Option.some.inj H
    go_enter Tryz.func15, Tryz.ntmps15
    go_wp2_with (first | ((with_reducible refine gate_callee (f := 46) rfl ?_); refine goesL_ (some 8) rfl rfl Tryz.func46 (by kernel_rfl) rfl #[.slice A0 l0.length c0, .string a1] rfl (by (try simp only [List.map_toArray, List.map_cons, List.map_nil]); first | done | rfl | (simp only [List.length_drop, List.length_take]; rfl)) ?_; (with_reducible refine (index_find.calls _ _ l0 a1 t281 _ ?side1 ?side2 A3.out).mono ?_); (case side1 => repeat (first | exact HR0.out | (with_reducible refine Kd.C_alloc ?_ _) | (with_reducible refine Kd.C_drewN ?_ _) | (with_reducible refine Kd.C_drew ?_))); (case side2 => exact HC0.out); rintro e w9 ⟨rfl, hb⟩; refine ⟨_, rfl, ?_⟩; have n0_ := Aside0.mk (below_step (by repeat (first | (with_reducible first | exact HB.out | apply below_alloc | apply pw_below_drewN | apply below_drew1) | exact HB.out)) hb); clear HB; have HB := n0_; clear n0_; (try clear hb); (try clear hb2); (try clear hk); (try clear hi); have p282 : 0 ≤ (t281 : Int) := of_decide_eq_true (by first | (with_reducible assumption) | assumption); have q282 : t281 < (l0.length : Int) := of_decide_eq_true (by first | (with_reducible assumption) | assumption); obtain ⟨ad282, A282_1, c282_1, e282, hx282_0, hx282_1, hl282_1, hi282_1⟩ := at_T79 HR0.out t281 p282 q282; cases e282; replace hx282_0 := (HB.out.cell (World.block_lt_of_cell? w _ hx282_0)).trans hx282_0; replace hx282_1 := (HB.out.cell (World.block_lt_of_cell? w _ hx282_1)).trans hx282_1; have HR282_1 := Aside0.mk hi282_1; have HC282_1 := Aside0.mk hl282_1; clear hi282_1 hl282_1; replace p282 := eq_true p282; replace q282 := eq_true q282) | ((with_reducible refine gate_callee (f := 47) rfl ?_); refine goesL_ (some 16) rfl rfl Tryz.func47 (by kernel_rfl) rfl #[.slice A282_1 ((rd_T79 l0 t281).f1).length c282_1] rfl (by (try simp only [List.map_toArray, List.map_cons, List.map_nil]); first | done | rfl | (simp only [List.length_drop, List.length_take]; rfl)) ?_; (with_reducible refine (api_Version_47.calls _ _ ((rd_T79 l0 t281).f1) t283 _ ?side1 ?side2 A8.out).mono ?_); (case side1 => repeat (first | exact (Kd.C_below HR282_1.out HB.out) | (with_reducible refine Kd.C_alloc ?_ _) | (with_reducible refine Kd.C_drewN ?_ _) | (with_reducible refine Kd.C_drew ?_))); (case side2 => exact HC282_1.out); rintro e w10 ⟨v284, rfl, ho0, hb⟩; refine ⟨_, rfl, ?_⟩; have n0_ := Aside0.mk (Kd.R_lower ho0 (below_size (by repeat (first | (with_reducible first | exact HB.out | apply below_alloc | apply pw_below_drewN | apply below_drew1) | exact HB.out)))); have n1_ := Aside0.mk (below_step (by repeat (first | (with_reducible first | exact HB.out | apply below_alloc | apply pw_below_drewN | apply below_drew1) | exact HB.out)) hb); clear HB; have HO285 := n0_; have HB := n1_; clear n0_ n1_; (try clear hb); (try clear hb2); (try clear hk); (try clear hi); (try clear ho0)))
    go_ret
    exact ⟨_, by first | rfl | (simp [errW_none, errW_some] <;> rfl) | (simp [*, errW_none, errW_some] <;> rfl), by (with_reducible repeat (first | apply Kd.R_alloc | apply Kd.R_drewN | apply Kd.R_drew)); exact HO285.out, by repeat (first | (with_reducible first | exact HB.out | apply below_alloc | apply pw_below_drewN | apply below_drew1) | exact HB.out)⟩
   ·rw [if_neg c7] at H
    exact absurd H (by simp)
  ·rw [if_neg c6] at H
   exact absurd H (by simp)
end Go.Proofs.YtpccbmechgkogaaGreatDoor.P
namespace Go.Proofs.YtpccbmechgkogaaGreatDoor.Get
open Go.RowKit Go.Proofs.YtpccbmechgkogaaGreatDoor.P Go.Proofs.YtpccbmechgkogaaGreatDoorW.PrintWords Go.Proofs.YtpccbmechgkogaaGreatDoor.PureKit Go.Proofs.YtpccbmechgkogaaGreatDoor.IdxSpec Go.Proofs.YtpccbmechgkogaaGreatDoor.IdxLaws Go.Proofs.YtpccbmechgkogaaGreatDoor.IdxPut
open Go.Proofs.YtpccbmechgkogaaGreatDoor.ChSpec (mayB chainB later good good_cons)
theorem getL_idx : ∀ (l : List E) (key : ByteArray), (IdxE.idx (IdxE.has key) l = -1 ∧ getL l key = []) ∨ ∃ (i : Nat) (h : i < l.length), IdxE.idx (IdxE.has key) l = (i : Int) ∧ getL l key = l[i].f1
 | [], key => .inl ⟨rfl, rfl⟩
 | x :: r, key => by
  by_cases hh : IdxE.has key x = true
  ·exact .inr ⟨0, by simp, by simp [IdxE.idx, List.findIdx?_cons, hh], if_pos hh⟩
  ·have e : getL (x :: r) key = getL r key := if_neg hh
   have hf : (x :: r).findIdx? (IdxE.has key) = (r.findIdx? (IdxE.has key)).map (· + 1) := by rw [List.findIdx?_cons, if_neg hh]
   rw [e]
   rcases getL_idx r key with ⟨h1, h2⟩ | ⟨i, hi, h1, h2⟩
   ·refine .inl ⟨?_, h2⟩
    unfold IdxE.idx at h1 ⊢
    rw [hf]
    cases hc : r.findIdx? (IdxE.has key) with
    | none => rfl
    | some j => rw [hc] at h1; simp at h1
   ·refine .inr ⟨i + 1, by simp; omega, ?_, h2⟩
    unfold IdxE.idx at h1 ⊢
    rw [hf]
    cases hc : r.findIdx? (IdxE.has key) with
    | none => rw [hc] at h1; simp at h1
    | some j =>
     rw [hc] at h1
     simp only at h1
     obtain rfl : j = i := by omega
     rfl
theorem vers_small {l : List E} (h : indexB l = true) : ∀ x ∈ l, x.f1.length ≤ 20 := fun x hx => by
 have h3 := ((index_iff l).1 h).2.1 x hx
 simp only [okE, chainB, Bool.and_eq_true, decide_eq_true_eq] at h3
 exact h3.2.1.1
theorem get_is (l : List E) (key : ByteArray) (hl : indexB l = true) : index_Get.f l key = some (getL l key) := by
 unfold index_Get.f index_find.f
 rcases getL_idx l key with ⟨h1, h2⟩ | ⟨i, hi, h1, h2⟩
 ·rw [h1, h2]
  rfl
 ·have hv := vers_small hl l[i] (List.getElem_mem hi)
  have hr : rd_T79 l (i : Int) = l[i] := by
   unfold rd_T79
   rw [Int.toNat_natCast, List.getD_eq_getElem?_getD, List.getElem?_eq_getElem hi]
   rfl
  rw [h1, h2, Option.bind_some, if_neg (by omega), if_pos (by omega), if_pos (by omega), hr]
  unfold api_Version_47.f
  rw [if_pos (by omega)]
  rfl
theorem get_any (A : Option Addr) (c : Nat) (l : List E) (key : ByteArray) (w : World) (hl : indexB l = true) (hr : Kd.C k79 w A l.length l) (hc : l.length ≤ c) :
  Calls Tryz.prog 15 #[.slice A l.length c, .string key] w fun e w' => ∃ v0_ : Value, e = .returned (v0_) ∧ Kd.R k63 63 w' w.heap.size (fun _ => True) v0_ (getL l key) ∧ Below w.heap.size w w' := index_Get.calls A c l key _ w hr hc (get_is l key hl)
theorem put_ok {l : List E} {key : ByteArray} {c : List V} (h : (put l key c).2 = 0) : indexB l = true ∧ Name.keyB key = true ∧ chainB c = true ∧ (putL l key c).length ≤ 60 ∧ put l key c = (putL l key c, 0) := by
 unfold put at h ⊢
 by_cases h1 : indexB l = true ∧ Name.keyB key = true ∧ chainB c = true
 ·rw [if_pos h1] at h ⊢
  by_cases h2 : (putL l key c).length > 60
  ·rw [if_pos h2] at h
   cases h
  ·rw [if_neg h2]
   exact ⟨h1.1, h1.2.1, h1.2.2, by omega, rfl⟩
 ·rw [if_neg h1] at h
  cases h
theorem index_putL {l : List E} {key : ByteArray} {c : List V} (h : (put l key c).2 = 0) : indexB (putL l key c) = true ∧ Rise l ∧ (∀ x ∈ l, okE x = true) := by
 obtain ⟨h1, h2, h3, h4, _⟩ := put_ok h
 obtain ⟨_, h5, h6⟩ := (index_iff l).1 h1
 exact ⟨(index_iff _).2 ⟨h4, ok_putL h6 h5 h2 h3, rise_putL h6⟩, h6, h5⟩
end Go.Proofs.YtpccbmechgkogaaGreatDoor.Get
namespace Go.Proofs.YtpccbmechgkogaaGreatDoor.IAt
open Go.RowKit Go.Proofs.YtpccbmechgkogaaGreatDoor.P Go.Proofs.YtpccbmechgkogaaGreatDoorW.PrintWords Go.Proofs.YtpccbmechgkogaaGreatDoor.PureKit Go.Proofs.YtpccbmechgkogaaGreatDoor.BkSpec
open Go.Proofs.YtpccbmechgkogaaGreatDoor.IdxSpec (at_ lt)
theorem at_drop (l : List E) (key : ByteArray) (k : Nat) (h : k < l.length) : at_ (l.drop k) key = (if lt l[k].f0 key = true then 1 else 0) + at_ (l.drop (k + 1)) key := by
 rw [List.drop_eq_getElem_cons h]
 unfold at_
 rw [List.filter_cons]
 split <;> simp
 omega
set_option maxRecDepth 100000 in
set_option maxHeartbeats 3200000 in
theorem at_any (A : Option Addr) (c : Nat) (l : List E) (key : ByteArray) (w : World) (hr : Kd.C k79 w A l.length l) (h60 : l.length ≤ 60) :
  Calls Tryz.prog 179 #[.slice A l.length c, .string key] w fun e w' => e = .returned (.int .i64 (at_ l key : Nat)) ∧ Below w.heap.size w w' := by
 have HR := Aside0.mk (fun W (hW : Below w.heap.size w W) => Kd.C_below hr hW)
 have HB := Aside0.mk (Below.refl w.heap.size w)
 have hu := Tryz.underlying79
 clear hr
 go_enter Tryz.func179, Tryz.ntmps179
 go_wp2
 go_loopw [5, 10] (fun n i wr => ∃ k m : Nat, k ≤ l.length ∧ m ≤ k ∧ i = .int .i64 k ∧ n = .int .i64 (m : Int) ∧ Aside0 (m + at_ (l.drop k) key = at_ l key) ∧ Aside0 (Below w.heap.size w wr)) (fun _ i _ => l.length - (intOf i).toNat)
 case atStart => exact ⟨0, 0, by omega, by omega, rfl, rfl, ⟨by simp⟩, HB⟩
 case round =>
  clear HB
  obtain ⟨k, m, hk, hmk, rfl, rfl, HM, HB⟩ := hrel
  by_cases hlt : k < l.length
  ·obtain ⟨ad, A1, c1, e0, h0, h1, -, -⟩ := at_T79 (HR.out _ HB.out) (k : Int) (by omega) (by omega)
   subst e0
   have hx : rd_T79 l (k : Int) = l[k] := rd_here _ l k hlt
   rw [hx, Int.toNat_natCast] at h0 h1
   have hs := at_drop l key k hlt
   generalize l[k] = x at h0 h1 hs
   have HL := Aside0.mk hlt
   have j0 : (0 : Int) ≤ (k : Int) := by omega
   have j1 : (k : Int) < (l.length : Int) := by omega
   have hw2 : IntKind.i64.wrap ((k : Int) + 1) = ((k + 1 : Nat) : Int) := by rw [IntKind.wrap_i64]; omega
   have hw3 : IntKind.i64.wrap ((m : Int) + 1) = ((m + 1 : Nat) : Int) := by rw [IntKind.wrap_i64]; omega
   cases hc : lt x.f0 key with
   | true =>
    have HM := Aside0.mk (show (m + 1) + at_ (l.drop (k + 1)) key = at_ l key by rw [← HM.out, hs, if_pos hc]; omega)
    unfold lt at hc
    clear hs hx hk hlt
    go_wp2
    exact ⟨⟨k + 1, m + 1, by have := HL.out; omega, by omega, by go_num, by go_num, HM, ⟨below_alloc HB.out _⟩⟩, by simp [intOf]; have := HL.out; omega⟩
   | false =>
    have HM := Aside0.mk (show m + at_ (l.drop (k + 1)) key = at_ l key by rw [← HM.out, hs, if_neg (by simp [hc])]; omega)
    unfold lt at hc
    clear hs hx hk hlt
    go_wp2
    exact ⟨⟨k + 1, m, by have := HL.out; omega, by omega, by go_num, rfl, HM, ⟨below_alloc HB.out _⟩⟩, by simp [intOf]; have := HL.out; omega⟩
  ·have hk2 : k = l.length := by omega
   have hm : m = at_ l key := by have := HM.out; rw [hk2, List.drop_length] at this; simpa [at_] using this
   subst hk2 hm
   go_wp2
   go_ret
   exact ⟨rfl, HB.out⟩
end Go.Proofs.YtpccbmechgkogaaGreatDoor.IAt
