/- sync.Once's Do at its first call, whatever the function does that is handed to it. -/
import Derived.Test.YtcnlomknmhgpbaaOnce
namespace Go.Proofs.Ytcnlomknmhgpbaa.OnceC
open Go Go.RowKit Go.Proofs.Ytcnlomknmhgpbaa.Hp Go.Proofs.Ytcnlomknmhgpbaa.Atom Go.Proofs.Ytcnlomknmhgpbaa.AtomC
set_option linter.unusedVariables false
set_option linter.unusedSimpArgs false
/-- What the function leaves: the Once's own cells as they were; and R. -/
def Mid (b off : Nat) (R : World → Prop) (e : Ending) (W : World) : Prop :=
  e = .returned (.tuple #[]) ∧ W.cell? ⟨b, off, none⟩ = some (.int .u32 0) ∧ W.cell? ⟨b, off + 1, none⟩ = some (.int .i32 1) ∧ W.frozen? ⟨b, off, none⟩ = false ∧ W.frozen? ⟨b, off + 1, none⟩ = false ∧ R W
/-- What Do leaves: it is done, and unlocked. -/
def Done (b off : Nat) (R : World → Prop) (e : Ending) (w' : World) : Prop :=
  e = .returned (.tuple #[]) ∧ ∃ W, R W ∧ w' = ((W.drew).setCell ⟨b, off, none⟩ (.int .u32 1)).setCell ⟨b, off + 1, none⟩ (.int .i32 0)
set_option maxRecDepth 100000 in
set_option maxHeartbeats 1600000 in
theorem slow_ret (b off : Nat) (F : FuncId) (cap : Array Value) (w : World) (R : World → Prop) (h0 : w.cell? ⟨b, off, none⟩ = some (.int .u32 0)) (h1 : w.cell? ⟨b, off + 1, none⟩ = some (.int .i32 0))
    (f0 : w.frozen? ⟨b, off, none⟩ = false) (f1 : w.frozen? ⟨b, off + 1, none⟩ = false) (hcf : ∀ w, (callFunc F cap).run Try.prog w = .ok (.enter F cap) w)
    (hcall : Calls Try.prog F cap (w.setCell ⟨b, off + 1, none⟩ (.int .i32 1)) (Mid b off R)) :
    Calls Try.prog 57 #[.pointer (some ⟨b, off, none⟩), .func (.func F) #[] cap] w (Done b off R) := by
  have hL : (w.setCell ⟨b, off + 1, none⟩ (.int .i32 1)).cell? ⟨b, off, none⟩ = some (.int .u32 (b32 false)) := (World.cell?_setCell_other _ ⟨b, off + 1, none⟩ ⟨b, off, none⟩ _ (by simp)).trans h0
  have hn := hnot
  have H := Lib.hid hcall
  clear hcall
  go_enter_defers Try.func57, Try.ntmps57
  go_wp2_with (first | (go_at_call 59; refine (lock_free ⟨b, off + 1, none⟩ _ h1 f1).mono ?_; rintro e w' ⟨rfl, rfl⟩) | (go_at_call 56; refine (bool_load _ false _ hL).mono ?_; rintro e w' ⟨rfl, rfl⟩))
  refine H.out.mono ?_
  rintro e W ⟨rfl, m0, m1, g0, g1, hR⟩
  have HR := Lib.hid hR
  clear hR
  go_wp2_with fail
  refine leaves_cons (f := 61) (args := #[.pointer (some ⟨b, off, none⟩), .bool true]) (by simp) (by simp [go_sem]) ?_
  refine (store_deferred ⟨b, off, none⟩ (.int .u32 0) .returning _ m0 g0).mono ?_
  rintro e u' w'' ⟨rfl, rfl, rfl⟩
  refine leaves_cons (f := 60) (args := #[.pointer (some ⟨b, off + 1, none⟩)]) (by simp [settle]) (by simp [go_sem]) ?_
  refine (unlock_deferred ⟨b, off + 1, none⟩ _ _ ?_ (by simp [g1])).mono ?_
  · refine (World.cell?_setCell_other _ ⟨b, off, none⟩ ⟨b, off + 1, none⟩ _ (by simp)).trans ?_
    rw [World.cell?_drew]; exact m1
  rintro e u' w'' ⟨rfl, rfl, rfl⟩
  exact ⟨_, results_none rfl _ _ _, rfl, W, HR.out, rfl⟩
/-- Do, not yet done and not locked: the function is called once, between the lock and the mark. -/
theorem do_ret (b off : Nat) (F : FuncId) (cap : Array Value) (w : World) (R : World → Prop) (h0 : w.cell? ⟨b, off, none⟩ = some (.int .u32 0)) (h1 : w.cell? ⟨b, off + 1, none⟩ = some (.int .i32 0))
    (f0 : w.frozen? ⟨b, off, none⟩ = false) (f1 : w.frozen? ⟨b, off + 1, none⟩ = false) (hcf : ∀ w, (callFunc F cap).run Try.prog w = .ok (.enter F cap) w)
    (hcall : Calls Try.prog F cap (w.setCell ⟨b, off + 1, none⟩ (.int .i32 1)) (Mid b off R)) :
    Calls Try.prog 52 #[.pointer (some ⟨b, off, none⟩), .func (.func F) #[] cap] w (Done b off R) := by
  have hn := hnot
  have H := Lib.hid (slow_ret b off F cap w R h0 h1 f0 f1 hcf hcall)
  clear hcall
  go_enter Try.func52, Try.ntmps52
  go_wp2_with (first | (go_at_call 56; refine (bool_load _ false _ h0).mono ?_; rintro e w' ⟨rfl, rfl⟩))
  refine H.out.mono ?_
  rintro e w' ⟨rfl, W, hR, hw⟩
  have HR := Lib.hid hR
  have HW := Lib.hid hw
  clear hR hw
  go_wp2_with fail
  go_end0
  exact ⟨rfl, W, HR.out, HW.out⟩
end Go.Proofs.Ytcnlomknmhgpbaa.OnceC
