/-
  chain.versions: WHERE a version lies (find), by a function value that holds the ID.
-/
import Derived.Test.YtldmidoemcdaaaaVerV
set_option linter.unusedVariables false
namespace Go.Proofs.Ytldmidoemcdaaaa.VerF
open Go.RowKit Go.Proofs.Ytldmidoemcdaaaa.P Go.Proofs.YtldmidoemcdaaaaW.PrintWords Go.Proofs.Ytldmidoemcdaaaa.PureKit Go.Proofs.Ytldmidoemcdaaaa.IdxV Go.Proofs.Ytldmidoemcdaaaa.VerV

set_option maxRecDepth 100000 in
set_option maxHeartbeats 1600000 in
theorem same_id (x : S25) (b : Nat) (id : Int) (W : World) (hc : W.cell? ⟨b, 0, none⟩ = some (.int .u64 id)) :
    Calls Try.prog 42 #[ver x, .pointer (some ⟨b, 0, none⟩)] W fun e w' => e = .returned (.bool (x.f0 == id)) ∧ Below W.heap.size W w' := by
  have hu := Try.underlying25
  unfold ver
  have hb : Below W.heap.size W (W.alloc (.cells #[.int .u64 x.f0, .string x.f1, .bool x.f2, .int .i64 x.f3] 25)) := (Below.refl _ _).alloc (Nat.le_refl _) _
  have hc2 := (hb.cell (World.block_lt_of_cell? _ _ hc)).trans hc
  clear hb
  go_enter Try.func42, Try.ntmps42
  go_wp2
  go_ret
  exact ⟨rfl, (Below.refl _ _).alloc (Nat.le_refl _) _⟩

set_option maxRecDepth 100000 in
set_option maxHeartbeats 1600000 in
theorem find_any (A : Option Addr) (c : Nat) (l : List S25) (id : Int) (w : World) (hr : Kd.C k25 w A l.length l) :
    Calls Try.prog 33 #[.slice A l.length c, .int .u64 id] w fun e w' => e = .returned (.int .i64 (idx (fun x => x.f0 == id) l)) ∧ Below w.heap.size w w' := by
  go_enter Try.func33, Try.ntmps33
  go_wp2_with fail
  have HB0 : Below w.heap.size w (w.alloc (.cells #[.int .u64 id] 23)) := (Below.refl _ _).alloc (Nat.le_refl _) _
  refine (VerV.index_any 42 #[.pointer (some ⟨w.heap.size, 0, none⟩)] (fun _ _ => rfl) (fun x => x.f0 == id) A c l _ (Kd.C_alloc hr _) (fun W x hx hB => same_id x _ id W ?_)).mono ?_
  · have hcell : (w.alloc (.cells #[.int .u64 id] 23)).cell? ⟨w.heap.size, 0, none⟩ = some (.int .u64 id) := World.cell?_alloc_at _ _ w.heap.size 0 rfl
    exact (hB.cell (World.block_lt_of_cell? _ _ hcell)).trans hcell
  · rintro e w1 ⟨rfl, hb⟩
    have HB := Aside0.mk (below_step HB0 hb)
    clear hb HB0
    go_wp2
    go_ret
    exact ⟨rfl, HB.out⟩
end Go.Proofs.Ytldmidoemcdaaaa.VerF
