/- crc's table engine: build, Built. -/
import Derived.Test.YtcnlomknmhgpbaaTabC
namespace Go.Proofs.Ytcnlomknmhgpbaa.TabC
open Go Go.RowKit Go.Proofs.Ytcnlomknmhgpbaa.Hp Go.Proofs.Ytcnlomknmhgpbaa.Atom Go.Proofs.Ytcnlomknmhgpbaa.AtomC Go.Proofs.Ytcnlomknmhgpbaa.OnceC Go.Proofs.Ytcnlomknmhgpbaa.Gf
set_option linter.unusedVariables false
set_option linter.unusedSimpArgs false
set_option maxRecDepth 100000 in
set_option maxHeartbeats 1600000 in
/-- build, the first time. -/
theorem build_first (b : Nat) (w : World) (h : Has w b 80 (tcells false 0 (List.replicate 256 0) false)) :
    Calls Try.prog 46 #[.pointer (some ⟨b, 0, none⟩)] w fun e w' => e = .returned (.tuple #[]) ∧ Kept [b] w w' ∧ Has w' b 80 (tcells true 0 (trow 256) true) := by
  have hbl := h.lt
  have hne : b ≠ w.heap.size := Nat.ne_of_lt hbl
  have hL1 := h.alloc (.cells #[.pointer (some ⟨b, 0, none⟩)] 48)
  have hP1 := Has.new w 48 [.pointer (some ⟨b, 0, none⟩)]
  have hk1 : Kept [b] w (w.alloc (.cells #[.pointer (some ⟨b, 0, none⟩)] 48)) := (Kept.refl _ _).alloc _
  have hmf : ∀ (fn : Fn) (first cap : Array Value) (w : World), (Instr.makeFunc fn first cap).run Try.prog w = .ok (.func fn first cap) w := fun _ _ _ _ => rfl
  have K1 := Lib.hid hk1
  clear hk1 h
  go_enter Try.func46, Try.ntmps46
  go_upto_region 1 with (fail)
  generalize w.alloc (.cells #[.pointer (some ⟨b, 0, none⟩)] 48) = w1 at *
  generalize w.heap.size = p at *
  have p0 := hP1.cell 0 (v := .pointer (some ⟨b, 0, none⟩)) rfl
  go_wp2_with fail
  have hcf : ∀ w, (callFunc 53 #[.pointer (some ⟨p, 0, none⟩)]).run Try.prog w = .ok (.enter 53 #[.pointer (some ⟨p, 0, none⟩)]) w := by
    intro w; simp [callFunc, Try.func53, go_sem]; rfl
  have hL2 := hL1.set 1 (.int .i32 1)
  have hP2 := hP1.set_ne ⟨b, 1, none⟩ (.int .i32 1) (fun e => hne e.symm)
  refine (do_ret b 0 53 _ w1 (fun W' => Kept [b] (w1.setCell ⟨b, 1, none⟩ (.int .i32 1)) W' ∧ Has W' b 80 (tcells false 1 (trow 256) true)) (hL1.cell 0 rfl) (hL1.cell 1 rfl) (hL1.free 0) (hL1.free 1) hcf ?_).mono ?_
  · refine (build1_call b p _ hL2 hP2 hne).mono ?_
    rintro e W' ⟨rfl, k, hh⟩
    exact ⟨rfl, hh.cell 0 rfl, hh.cell 1 rfl, hh.free 0, hh.free 1, k, hh⟩
  rintro e w5 ⟨rfl, W', ⟨k, hh⟩, hw⟩
  have k5 : Kept [b] w1 w5 := by
    rw [hw]
    exact ((((Kept.refl [b] w1).set ⟨b, 1, none⟩ (.int .i32 1) (by simp)).trans k).drew.set ⟨b, 0, none⟩ _ (by simp)).set ⟨b, 1, none⟩ _ (by simp)
  have h5 : Has w5 b 80 (tcells true 0 (trow 256) true) := by
    rw [hw]; exact (hh.drew.set 0 (.int .u32 1)).set 1 (.int .i32 0)
  have k5' := Lib.hid k5
  have h5' := Lib.hid h5
  clear hw k hh hcf hmf k5 h5 p0
  go_wp2_with fail
  go_end0
  exact ⟨rfl, K1.out.trans k5'.out, h5'.out⟩
/-- build, the table made already. -/
theorem build_again (b : Nat) (r : List Int) (m : Bool) (w : World) (h : Has w b 80 (tcells true 0 r m)) :
    Calls Try.prog 46 #[.pointer (some ⟨b, 0, none⟩)] w fun e w' => e = .returned (.tuple #[]) ∧ Kept [] w w' := by
  have hbl := h.lt
  have hne : b ≠ w.heap.size := Nat.ne_of_lt hbl
  have hL1 := h.alloc (.cells #[.pointer (some ⟨b, 0, none⟩)] 48)
  have hP1 := Has.new w 48 [.pointer (some ⟨b, 0, none⟩)]
  have hk1 : Kept [] w (w.alloc (.cells #[.pointer (some ⟨b, 0, none⟩)] 48)) := (Kept.refl _ _).alloc _
  have hmf : ∀ (fn : Fn) (first cap : Array Value) (w : World), (Instr.makeFunc fn first cap).run Try.prog w = .ok (.func fn first cap) w := fun _ _ _ _ => rfl
  have K1 := Lib.hid hk1
  clear hk1 h
  go_enter Try.func46, Try.ntmps46
  go_upto_region 1 with (fail)
  generalize w.alloc (.cells #[.pointer (some ⟨b, 0, none⟩)] 48) = w1 at *
  generalize w.heap.size = p at *
  have p0 := hP1.cell 0 (v := .pointer (some ⟨b, 0, none⟩)) rfl
  go_wp2_with fail
  refine (do_done ⟨b, 0, none⟩ _ _ (hL1.cell 0 rfl)).mono ?_
  rintro e w' ⟨rfl, rfl⟩
  go_wp2_with fail
  go_end0
  exact ⟨rfl, K1.out⟩
theorem built_call (b : Nat) (d : Bool) (r : List Int) (m : Bool) (w : World) (hr : r.length = 256) (h : Has w b 80 (tcells d 0 r m)) :
    Calls Try.prog 31 #[.pointer (some ⟨b, 0, none⟩)] w fun e w' => e = .returned (.bool m) ∧ Kept [] w w' := by
  have q0 := h.cell 259 (tcells_last d 0 r m hr)
  have K0 := Lib.hid (Kept.refl [] w)
  clear h
  go_enter Try.func31, Try.ntmps31
  go_wp2_with fail
  go_ret
  exact ⟨rfl, by first | exact K0.out | exact K0.out.drew | exact K0.out.drewN _⟩
theorem built_nil (w : World) : Calls Try.prog 31 #[.pointer none] w fun e w' => e = .returned (.bool false) ∧ Kept [] w w' := by
  have K0 := Lib.hid (Kept.refl [] w)
  go_enter Try.func31, Try.ntmps31
  go_wp2_with fail
  go_ret
  exact ⟨rfl, by first | exact K0.out | exact K0.out.drew | exact K0.out.drewN _⟩
end Go.Proofs.Ytcnlomknmhgpbaa.TabC
