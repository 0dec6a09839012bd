/- Contracts of gate's Lazy of a number: Get, whatever makes the value. -/
import Derived.Test.YtlafkeijikbenaaS06a
import Derived.Deep.RegionHeld3
namespace Go.Proofs.Ytlafkeijikbenaa.Law06
open Go Go.RowKit Go.Proofs.Ytlafkeijikbenaa.Hp Go.Proofs.Ytlafkeijikbenaa.Atom Go.Proofs.Ytlafkeijikbenaa.AtomC Go.Proofs.Ytlafkeijikbenaa.OnceC Go.Proofs.Ytlafkeijikbenaa.GateC
set_option linter.unusedVariables false
set_option linter.unusedSimpArgs false
/-- A function that makes a value: what it needs stays while other blocks turn; it returns v, and leaves Q. -/
structure Maker (F : FuncId) (cap : Array Value) (v : Value) (S : List Nat) (Pre Q : World → Prop) : Prop where
  enter : ∀ w, (callFunc F cap).run Try.prog w = .ok (.enter F cap) w
  pre : ∀ w w' T, Pre w → Kept T w w' → (∀ i, i ∈ T → i ∉ S) → Pre w'
  post : ∀ w w' T, Q w → Kept T w w' → (∀ i, i ∈ T → i ∉ S) → Q w'
  call : ∀ w, Pre w → Calls Try.prog F cap w fun e w' => e = .returned v ∧ Kept S w w' ∧ Q w'
theorem mk_call (f : FuncId) (cap : Array Value) (w : World) : Calls Try.prog 38 #[.func (.func f) #[] cap] w fun e w' => e = .returned (.pointer (some ⟨w.heap.size, 0, none⟩)) ∧ Kept [] w w' ∧ IsL w' w.heap.size false false (.func (.func f) #[] cap) (.int .i64 0) := by
  go_enter Try.func38, Try.ntmps38
  go_wp2
  go_ret
  exact ⟨rfl, (Kept.refl _ _).alloc _, Has.new w _ _⟩
theorem mks_call (f : FuncId) (cap : Array Value) (w : World) : Calls Try.prog 40 #[.func (.func f) #[] cap] w fun e w' => e = .returned (.pointer (some ⟨w.heap.size, 0, none⟩)) ∧ Kept [] w w' ∧ IsS w' w.heap.size false false (.func (.func f) #[] cap) (.string ⟨#[]⟩) := by
  go_enter Try.func40, Try.ntmps40
  go_wp2
  go_ret
  exact ⟨rfl, (Kept.refl _ _).alloc _, Has.new w _ _⟩
set_option maxRecDepth 100000 in
set_option maxHeartbeats 1600000 in
/-- Get's own function: the value is made, and stored; then the mark. -/
theorem get1_call (b p : Nat) (F : FuncId) (cap : Array Value) (n : Int) (S : List Nat) (Pre Q : World → Prop) (hm : Maker F cap (.int .i64 n) S Pre Q) (u0 u1 u2 v : Value) (w : World)
    (h : Has w b 114 [u0, u1, u2, .func (.func F) #[] cap, v, .int .u32 0]) (hp : Has w p 69 [.pointer (some ⟨b, 0, none⟩)]) (hS : b ∉ S) (hSp : p ∉ S) (hpre : Pre w) :
    Calls Try.prog 67 #[.pointer (some ⟨p, 0, none⟩)] w fun e w' => e = .returned (.tuple #[]) ∧ Kept (b :: S) w w' ∧ Has w' b 114 [u0, u1, u2, .func (.func F) #[] cap, .int .i64 n, .int .u32 1] ∧ Q w' := by
  have hbp : b ≠ p := Has.ne h hp (by decide)
  have hce := hm.enter
  have M := Lib.hid (fun w h => hm.call w h)
  have hpre' := Lib.hid hpre
  have Hh := Lib.hid h
  have Hp := Lib.hid hp
  have p0 := hp.cell 0 (v := .pointer (some ⟨b, 0, none⟩)) rfl
  have b3 := h.cell 3 (v := .func (.func F) #[] cap) rfl
  have e1 : ∀ (W : World) x, (W.setCell ⟨b, 4, none⟩ x).cell? ⟨b, 3, none⟩ = W.cell? ⟨b, 3, none⟩ := fun W x => World.cell?_setCell_other _ _ _ _ (by simp)
  have e2 : ∀ (W : World) x, (W.setCell ⟨b, 4, none⟩ x).cell? ⟨p, 0, none⟩ = W.cell? ⟨p, 0, none⟩ := fun W x => World.cell?_setCell_other _ _ _ _ (fun h => hbp (congrArg Addr.block h))
  clear hpre
  go_enter Try.func67, Try.ntmps67
  go_wp2_with fail
  go_region_held3 (fun w' => w'.cell? ⟨p, 0, none⟩ = some (.pointer (some ⟨b, 0, none⟩)) ∧ w'.cell? ⟨b, 3, none⟩ = some (.func (.func F) #[] cap)) (first | exact ⟨by assumption, by assumption⟩ | exact ⟨(e2 _ _).trans (by assumption), (e1 _ _).trans (by assumption)⟩ | go_keep)
    (first
      | (refine (M.out _ (hm.pre _ _ [] hpre'.out ((Kept.refl [] w).drew) (by simp))).mono ?_; rintro e w2 ⟨rfl, k2, hq⟩; have p2 := (k2.has Hp.out.drew hSp).cell 0 (v := .pointer (some ⟨b, 0, none⟩)) rfl; have H2 := k2.has Hh.out.drew hS; have b2 := H2.cell 3 (v := .func (.func F) #[] cap) rfl; have b4 := H2.cell 4 (v := v) rfl; have z4 := H2.free 4))
  have H2 := (k2.has Hh.out.drew hS).set 4 (.int .i64 n)
  have p3 := (((k2.has Hp.out.drew hSp).set_ne ⟨b, 4, none⟩ (.int .i64 n) (fun e => hbp e.symm)).cell 0 (v := .pointer (some ⟨b, 0, none⟩)) rfl)
  have k3 : Kept (b :: S) w (w2.setCell ⟨b, 4, none⟩ (.int .i64 n)) := ((((Kept.refl [] w).drew.mono (by simp)).trans (k2.mono (by simp <;> exact fun i hi => .inr hi))).set _ _ (by simp))
  have q3 := hm.post _ _ [b] hq ((Kept.refl [b] w2).set ⟨b, 4, none⟩ (.int .i64 n) (by simp)) (by simp; exact hS)
  have K3 := Lib.hid k3
  have Q3 := Lib.hid q3
  clear p2 b2 k2 k3 q3 hq Hh Hp p0 b3 e1 e2 M hpre' b4 z4
  generalize w2.setCell ⟨b, 4, none⟩ (.int .i64 n) = w3 at *
  go_wp2_with fail
  refine (bool_store _ (.int .u32 0) true _ (H2.cell 5 rfl) (H2.free 5)).mono ?_
  rintro e w4 ⟨rfl, rfl⟩
  go_wp2_with fail
  go_end0
  exact ⟨rfl, K3.out.drew.set _ _ (by simp), H2.drew.set 5 (.int .u32 1), hm.post _ _ [b] Q3.out ((Kept.refl [b] w3).drew.set ⟨b, 5, none⟩ _ (by simp)) (by simp; exact hS)⟩
set_option maxRecDepth 100000 in
set_option maxHeartbeats 1600000 in
/-- Get, the first time: the value is made. -/
theorem get_first (b : Nat) (F : FuncId) (cap : Array Value) (n : Int) (S : List Nat) (Pre Q : World → Prop) (hm : Maker F cap (.int .i64 n) S Pre Q) (w : World)
    (h : IsL w b false false (.func (.func F) #[] cap) (.int .i64 0)) (hS : b ∉ S) (hSl : ∀ i, i ∈ S → i < w.heap.size) (hpre : Pre w) :
    Calls Try.prog 44 #[.pointer (some ⟨b, 0, none⟩)] w fun e w' => e = .returned (.int .i64 n) ∧ Kept (b :: S) w w' ∧ IsL w' b true true (.func (.func F) #[] cap) (.int .i64 n) ∧ Q w' := by
  have hbl := h.lt
  have hne : b ≠ w.heap.size := Nat.ne_of_lt hbl
  have hL1 := h.alloc (.cells #[.pointer (some ⟨b, 0, none⟩)] 69)
  have hP1 := Has.new w 69 [.pointer (some ⟨b, 0, none⟩)]
  have hk1 : Kept (b :: S) w (w.alloc (.cells #[.pointer (some ⟨b, 0, none⟩)] 69)) := (Kept.refl _ _).alloc _
  have pre1 := hm.pre _ _ [] hpre ((Kept.refl [] w).alloc (.cells #[.pointer (some ⟨b, 0, none⟩)] 69)) (by simp)
  have hSp : w.heap.size ∉ S := fun hi => by have := hSl _ hi; omega
  have hmf : ∀ (fn : Fn) (first cap : Array Value) (w : World), (Instr.makeFunc fn first cap).run Try.prog w = .ok (.func fn first cap) w := fun _ _ _ _ => rfl
  have K1 := Lib.hid hk1
  have P1 := Lib.hid pre1
  clear hk1 pre1 hSl hpre h
  go_enter Try.func44, Try.ntmps44
  go_upto_region 1 with (fail)
  generalize w.alloc (.cells #[.pointer (some ⟨b, 0, none⟩)] 69) = w1 at *
  generalize w.heap.size = p at *
  have p0 := hP1.cell 0 (v := .pointer (some ⟨b, 0, none⟩)) rfl
  have b3 := hL1.cell 3 (v := .func (.func F) #[] cap) rfl
  have hnf : ∀ w : World, (binOp .eql 65 (.func (.func F) #[] cap) .nilFunc).run Try.prog w = .ok (.bool false) w := fun w => by kernel_rfl
  go_wp2_with fail
  have hcf : ∀ w, (callFunc 67 #[.pointer (some ⟨p, 0, none⟩)]).run Try.prog w = .ok (.enter 67 #[.pointer (some ⟨p, 0, none⟩)]) w := by
    intro w; simp [callFunc, Try.func67, go_sem]; rfl
  have hL2 := hL1.set 1 (.int .i32 1)
  have hP2 := hP1.set_ne ⟨b, 1, none⟩ (.int .i32 1) (fun e => hne e.symm)
  have pre2 := hm.pre _ _ [b] P1.out ((Kept.refl [b] w1).set ⟨b, 1, none⟩ (.int .i32 1) (by simp)) (by simp; exact hS)
  refine (do_ret b 0 67 _ w1 (fun W' => Kept (b :: S) (w1.setCell ⟨b, 1, none⟩ (.int .i32 1)) W' ∧ Has W' b 114 [.int .u32 0, .int .i32 1, .int .u32 0, .func (.func F) #[] cap, .int .i64 n, .int .u32 1] ∧ Q W') (hL1.cell 0 rfl) (hL1.cell 1 rfl) (hL1.free 0) (hL1.free 1) hcf ?_).mono ?_
  · refine (get1_call b p F cap n S Pre Q hm _ _ _ _ _ hL2 hP2 hS hSp pre2).mono ?_
    rintro e W' ⟨rfl, k, hh, hq⟩
    exact ⟨rfl, hh.cell 0 rfl, hh.cell 1 rfl, hh.free 0, hh.free 1, k, hh, hq⟩
  rintro e w5 ⟨rfl, W', ⟨k, hh, hq⟩, hw⟩
  have k5 : Kept (b :: S) w1 w5 := by
    rw [hw]
    exact ((((Kept.refl (b :: S) w1).set ⟨b, 1, none⟩ (.int .i32 1) (by simp)).trans k).drew.set ⟨b, 0, none⟩ _ (by simp)).set ⟨b, 1, none⟩ _ (by simp)
  have h5 : IsL w5 b true true (.func (.func F) #[] cap) (.int .i64 n) := by
    rw [hw]; exact (hh.drew.set 0 (.int .u32 1)).set 1 (.int .i32 0)
  have q5 : Q w5 := by
    rw [hw]; exact hm.post _ _ [b] hq (((Kept.refl [b] W').drew.set ⟨b, 0, none⟩ _ (by simp)).set ⟨b, 1, none⟩ _ (by simp)) (by simp; exact hS)
  have p5 : w5.cell? ⟨p, 0, none⟩ = some (.pointer (some ⟨b, 0, none⟩)) := (k5.has hP1 (by simp; exact ⟨fun e => hne e.symm, hSp⟩)).cell 0 rfl
  have b5 := h5.cell 4 (v := .int .i64 n) rfl
  have Q5 := Lib.hid q5
  have k5' := Lib.hid k5
  clear hw k hh hq hcf hnf hmf k5 q5 pre2 p0 b3
  go_wp2_with fail
  go_ret
  exact ⟨rfl, K1.out.trans k5'.out, h5, Q5.out⟩
/-- Get, the value made already (or its making given up): it is handed back. -/
theorem get_again (b : Nat) (m : Bool) (F : FuncId) (cap : Array Value) (n : Int) (w : World) (h : IsL w b true m (.func (.func F) #[] cap) (.int .i64 n)) :
    Calls Try.prog 44 #[.pointer (some ⟨b, 0, none⟩)] w fun e w' => e = .returned (.int .i64 n) ∧ Kept [] w w' := by
  have hbl := h.lt
  have hne : b ≠ w.heap.size := Nat.ne_of_lt hbl
  have hL1 := h.alloc (.cells #[.pointer (some ⟨b, 0, none⟩)] 69)
  have hP1 := Has.new w 69 [.pointer (some ⟨b, 0, none⟩)]
  have hk1 : Kept [] w (w.alloc (.cells #[.pointer (some ⟨b, 0, none⟩)] 69)) := (Kept.refl _ _).alloc _
  have hmf : ∀ (fn : Fn) (first cap : Array Value) (w : World), (Instr.makeFunc fn first cap).run Try.prog w = .ok (.func fn first cap) w := fun _ _ _ _ => rfl
  have K1 := Lib.hid hk1
  clear hk1 h
  go_enter Try.func44, Try.ntmps44
  go_upto_region 1 with (fail)
  generalize w.alloc (.cells #[.pointer (some ⟨b, 0, none⟩)] 69) = w1 at *
  generalize w.heap.size = p at *
  have p0 := hP1.cell 0 (v := .pointer (some ⟨b, 0, none⟩)) rfl
  have b3 := hL1.cell 3 (v := .func (.func F) #[] cap) rfl
  have b4 := hL1.cell 4 (v := .int .i64 n) rfl
  have hnf : ∀ w : World, (binOp .eql 65 (.func (.func F) #[] cap) .nilFunc).run Try.prog w = .ok (.bool false) w := fun w => by kernel_rfl
  go_wp2_with fail
  refine (do_done ⟨b, 0, none⟩ _ _ (hL1.cell 0 rfl)).mono ?_
  rintro e w' ⟨rfl, rfl⟩
  go_wp2_with fail
  go_ret
  exact ⟨rfl, K1.out⟩
end Go.Proofs.Ytlafkeijikbenaa.Law06
