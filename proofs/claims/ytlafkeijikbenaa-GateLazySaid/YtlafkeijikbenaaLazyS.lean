/- Contracts of gate's Lazy of a text; the functions that GateLazy hands in; the law GateLazy. -/
import Derived.Test.YtlafkeijikbenaaLazyC
namespace Go.Proofs.Ytlafkeijikbenaa.Law06
open Go Go.RowKit Go.Proofs.Ytlafkeijikbenaa.Hp Go.Proofs.Ytlafkeijikbenaa.Atom Go.Proofs.Ytlafkeijikbenaa.AtomC Go.Proofs.Ytlafkeijikbenaa.OnceC Go.Proofs.Ytlafkeijikbenaa.GateC
set_option linter.unusedVariables false
set_option linter.unusedSimpArgs false
set_option maxRecDepth 100000 in
set_option maxHeartbeats 1600000 in
/-- Get's own function: the value is made, and stored; then the mark. -/
theorem gets1_call (b p : Nat) (F : FuncId) (cap : Array Value) (n : ByteArray) (S : List Nat) (Pre Q : World → Prop) (hm : Maker F cap (.string n) S Pre Q) (u0 u1 u2 v : Value) (w : World)
    (h : Has w b 116 [u0, u1, u2, .func (.func F) #[] cap, v, .int .u32 0]) (hp : Has w p 71 [.pointer (some ⟨b, 0, none⟩)]) (hS : b ∉ S) (hSp : p ∉ S) (hpre : Pre w) :
    Calls Try.prog 69 #[.pointer (some ⟨p, 0, none⟩)] w fun e w' => e = .returned (.tuple #[]) ∧ Kept (b :: S) w w' ∧ Has w' b 116 [u0, u1, u2, .func (.func F) #[] cap, .string n, .int .u32 1] ∧ Q w' := by
  have hbp : b ≠ p := Has.ne h hp (by decide)
  have hce := hm.enter
  have M := Lib.hid (fun w h => hm.call w h)
  have hpre' := Lib.hid hpre
  have Hh := Lib.hid h
  have Hp := Lib.hid hp
  have p0 := hp.cell 0 (v := .pointer (some ⟨b, 0, none⟩)) rfl
  have b3 := h.cell 3 (v := .func (.func F) #[] cap) rfl
  have e1 : ∀ (W : World) x, (W.setCell ⟨b, 4, none⟩ x).cell? ⟨b, 3, none⟩ = W.cell? ⟨b, 3, none⟩ := fun W x => World.cell?_setCell_other _ _ _ _ (by simp)
  have e2 : ∀ (W : World) x, (W.setCell ⟨b, 4, none⟩ x).cell? ⟨p, 0, none⟩ = W.cell? ⟨p, 0, none⟩ := fun W x => World.cell?_setCell_other _ _ _ _ (fun h => hbp (congrArg Addr.block h))
  clear hpre
  go_enter Try.func69, Try.ntmps69
  go_wp2_with fail
  go_region_held3 (fun w' => w'.cell? ⟨p, 0, none⟩ = some (.pointer (some ⟨b, 0, none⟩)) ∧ w'.cell? ⟨b, 3, none⟩ = some (.func (.func F) #[] cap)) (first | exact ⟨by assumption, by assumption⟩ | exact ⟨(e2 _ _).trans (by assumption), (e1 _ _).trans (by assumption)⟩ | go_keep)
    (first
      | (refine (M.out _ (hm.pre _ _ [] hpre'.out ((Kept.refl [] w).drew) (by simp))).mono ?_; rintro e w2 ⟨rfl, k2, hq⟩; have p2 := (k2.has Hp.out.drew hSp).cell 0 (v := .pointer (some ⟨b, 0, none⟩)) rfl; have H2 := k2.has Hh.out.drew hS; have b2 := H2.cell 3 (v := .func (.func F) #[] cap) rfl; have b4 := H2.cell 4 (v := v) rfl; have z4 := H2.free 4))
  have H2 := (k2.has Hh.out.drew hS).set 4 (.string n)
  have p3 := (((k2.has Hp.out.drew hSp).set_ne ⟨b, 4, none⟩ (.string n) (fun e => hbp e.symm)).cell 0 (v := .pointer (some ⟨b, 0, none⟩)) rfl)
  have k3 : Kept (b :: S) w (w2.setCell ⟨b, 4, none⟩ (.string n)) := ((((Kept.refl [] w).drew.mono (by simp)).trans (k2.mono (by simp <;> exact fun i hi => .inr hi))).set _ _ (by simp))
  have q3 := hm.post _ _ [b] hq ((Kept.refl [b] w2).set ⟨b, 4, none⟩ (.string n) (by simp)) (by simp; exact hS)
  have K3 := Lib.hid k3
  have Q3 := Lib.hid q3
  clear p2 b2 k2 k3 q3 hq Hh Hp p0 b3 e1 e2 M hpre' b4 z4
  generalize w2.setCell ⟨b, 4, none⟩ (.string n) = w3 at *
  go_wp2_with fail
  refine (bool_store _ (.int .u32 0) true _ (H2.cell 5 rfl) (H2.free 5)).mono ?_
  rintro e w4 ⟨rfl, rfl⟩
  go_wp2_with fail
  go_end0
  exact ⟨rfl, K3.out.drew.set _ _ (by simp), H2.drew.set 5 (.int .u32 1), hm.post _ _ [b] Q3.out ((Kept.refl [b] w3).drew.set ⟨b, 5, none⟩ _ (by simp)) (by simp; exact hS)⟩
set_option maxRecDepth 100000 in
set_option maxHeartbeats 1600000 in
/-- Get, the first time: the value is made. -/
theorem gets_first (b : Nat) (F : FuncId) (cap : Array Value) (n : ByteArray) (S : List Nat) (Pre Q : World → Prop) (hm : Maker F cap (.string n) S Pre Q) (w : World)
    (h : IsS w b false false (.func (.func F) #[] cap) (.string ⟨#[]⟩)) (hS : b ∉ S) (hSl : ∀ i, i ∈ S → i < w.heap.size) (hpre : Pre w) :
    Calls Try.prog 45 #[.pointer (some ⟨b, 0, none⟩)] w fun e w' => e = .returned (.string n) ∧ Kept (b :: S) w w' ∧ IsS w' b true true (.func (.func F) #[] cap) (.string n) ∧ Q w' := by
  have hbl := h.lt
  have hne : b ≠ w.heap.size := Nat.ne_of_lt hbl
  have hL1 := h.alloc (.cells #[.pointer (some ⟨b, 0, none⟩)] 71)
  have hP1 := Has.new w 71 [.pointer (some ⟨b, 0, none⟩)]
  have hk1 : Kept (b :: S) w (w.alloc (.cells #[.pointer (some ⟨b, 0, none⟩)] 71)) := (Kept.refl _ _).alloc _
  have pre1 := hm.pre _ _ [] hpre ((Kept.refl [] w).alloc (.cells #[.pointer (some ⟨b, 0, none⟩)] 71)) (by simp)
  have hSp : w.heap.size ∉ S := fun hi => by have := hSl _ hi; omega
  have hmf : ∀ (fn : Fn) (first cap : Array Value) (w : World), (Instr.makeFunc fn first cap).run Try.prog w = .ok (.func fn first cap) w := fun _ _ _ _ => rfl
  have K1 := Lib.hid hk1
  have P1 := Lib.hid pre1
  clear hk1 pre1 hSl hpre h
  go_enter Try.func45, Try.ntmps45
  go_upto_region 1 with (fail)
  generalize w.alloc (.cells #[.pointer (some ⟨b, 0, none⟩)] 71) = w1 at *
  generalize w.heap.size = p at *
  have p0 := hP1.cell 0 (v := .pointer (some ⟨b, 0, none⟩)) rfl
  have b3 := hL1.cell 3 (v := .func (.func F) #[] cap) rfl
  have hnf : ∀ w : World, (binOp .eql 73 (.func (.func F) #[] cap) .nilFunc).run Try.prog w = .ok (.bool false) w := fun w => by kernel_rfl
  go_wp2_with fail
  have hcf : ∀ w, (callFunc 69 #[.pointer (some ⟨p, 0, none⟩)]).run Try.prog w = .ok (.enter 69 #[.pointer (some ⟨p, 0, none⟩)]) w := by
    intro w; simp [callFunc, Try.func69, go_sem]; rfl
  have hL2 := hL1.set 1 (.int .i32 1)
  have hP2 := hP1.set_ne ⟨b, 1, none⟩ (.int .i32 1) (fun e => hne e.symm)
  have pre2 := hm.pre _ _ [b] P1.out ((Kept.refl [b] w1).set ⟨b, 1, none⟩ (.int .i32 1) (by simp)) (by simp; exact hS)
  refine (do_ret b 0 69 _ w1 (fun W' => Kept (b :: S) (w1.setCell ⟨b, 1, none⟩ (.int .i32 1)) W' ∧ Has W' b 116 [.int .u32 0, .int .i32 1, .int .u32 0, .func (.func F) #[] cap, .string n, .int .u32 1] ∧ Q W') (hL1.cell 0 rfl) (hL1.cell 1 rfl) (hL1.free 0) (hL1.free 1) hcf ?_).mono ?_
  · refine (gets1_call b p F cap n S Pre Q hm _ _ _ _ _ hL2 hP2 hS hSp pre2).mono ?_
    rintro e W' ⟨rfl, k, hh, hq⟩
    exact ⟨rfl, hh.cell 0 rfl, hh.cell 1 rfl, hh.free 0, hh.free 1, k, hh, hq⟩
  rintro e w5 ⟨rfl, W', ⟨k, hh, hq⟩, hw⟩
  have k5 : Kept (b :: S) w1 w5 := by
    rw [hw]
    exact ((((Kept.refl (b :: S) w1).set ⟨b, 1, none⟩ (.int .i32 1) (by simp)).trans k).drew.set ⟨b, 0, none⟩ _ (by simp)).set ⟨b, 1, none⟩ _ (by simp)
  have h5 : IsS w5 b true true (.func (.func F) #[] cap) (.string n) := by
    rw [hw]; exact (hh.drew.set 0 (.int .u32 1)).set 1 (.int .i32 0)
  have q5 : Q w5 := by
    rw [hw]; exact hm.post _ _ [b] hq (((Kept.refl [b] W').drew.set ⟨b, 0, none⟩ _ (by simp)).set ⟨b, 1, none⟩ _ (by simp)) (by simp; exact hS)
  have p5 : w5.cell? ⟨p, 0, none⟩ = some (.pointer (some ⟨b, 0, none⟩)) := (k5.has hP1 (by simp; exact ⟨fun e => hne e.symm, hSp⟩)).cell 0 rfl
  have b5 := h5.cell 4 (v := .string n) rfl
  have Q5 := Lib.hid q5
  have k5' := Lib.hid k5
  clear hw k hh hq hcf hnf hmf k5 q5 pre2 p0 b3
  go_wp2_with fail
  go_ret
  exact ⟨rfl, K1.out.trans k5'.out, h5, Q5.out⟩
/-- Get, the value made already (or its making given up): it is handed back. -/
theorem gets_again (b : Nat) (m : Bool) (F : FuncId) (cap : Array Value) (n : ByteArray) (w : World) (h : IsS w b true m (.func (.func F) #[] cap) (.string n)) :
    Calls Try.prog 45 #[.pointer (some ⟨b, 0, none⟩)] w fun e w' => e = .returned (.string n) ∧ Kept [] w w' := by
  have hbl := h.lt
  have hne : b ≠ w.heap.size := Nat.ne_of_lt hbl
  have hL1 := h.alloc (.cells #[.pointer (some ⟨b, 0, none⟩)] 71)
  have hP1 := Has.new w 71 [.pointer (some ⟨b, 0, none⟩)]
  have hk1 : Kept [] w (w.alloc (.cells #[.pointer (some ⟨b, 0, none⟩)] 71)) := (Kept.refl _ _).alloc _
  have hmf : ∀ (fn : Fn) (first cap : Array Value) (w : World), (Instr.makeFunc fn first cap).run Try.prog w = .ok (.func fn first cap) w := fun _ _ _ _ => rfl
  have K1 := Lib.hid hk1
  clear hk1 h
  go_enter Try.func45, Try.ntmps45
  go_upto_region 1 with (fail)
  generalize w.alloc (.cells #[.pointer (some ⟨b, 0, none⟩)] 71) = w1 at *
  generalize w.heap.size = p at *
  have p0 := hP1.cell 0 (v := .pointer (some ⟨b, 0, none⟩)) rfl
  have b3 := hL1.cell 3 (v := .func (.func F) #[] cap) rfl
  have b4 := hL1.cell 4 (v := .string n) rfl
  have hnf : ∀ w : World, (binOp .eql 73 (.func (.func F) #[] cap) .nilFunc).run Try.prog w = .ok (.bool false) w := fun w => by kernel_rfl
  go_wp2_with fail
  refine (do_done ⟨b, 0, none⟩ _ _ (hL1.cell 0 rfl)).mono ?_
  rintro e w' ⟨rfl, rfl⟩
  go_wp2_with fail
  go_ret
  exact ⟨rfl, K1.out⟩
/-- GateLazy's first function. -/
def LPre (c pv : Nat) (v k : Int) (w : World) : Prop := Has w c 3 [.int .i64 k] ∧ Has w pv 3 [.int .i64 v]
theorem lazy1 (c pv : Nat) (v : Int) (hne : c ≠ pv) (wv : (Lit.int .i64 v).wf = true) : Maker 39 #[.pointer (some ⟨c, 0, none⟩), .pointer (some ⟨pv, 0, none⟩)] (.int .i64 v) [c, pv] (LPre c pv v 0) (LPre c pv v 1) where
  enter := by intro w; simp [callFunc, Try.func39, go_sem]; rfl
  pre := fun w w' T h k hT => ⟨k.has h.1 (fun hi => hT c hi (by simp)), k.has h.2 (fun hi => hT pv hi (by simp))⟩
  post := fun w w' T h k hT => ⟨k.has h.1 (fun hi => hT c hi (by simp)), k.has h.2 (fun hi => hT pv hi (by simp))⟩
  call := by
    rintro w ⟨h1, h2⟩
    have hb : -9223372036854775808 ≤ v ∧ v ≤ 9223372036854775807 := by simpa [Lit.wf, IntKind.min, IntKind.max, IntKind.signed, IntKind.bits] using wv
    have e : wrap64 (wrap64 (v + 1) - 1) = v := by unfold wrap64; omega
    have E := Lib.hid e
    have c0 := h1.cell 0 (v := .int .i64 0) rfl
    have v0 := h2.cell 0 (v := .int .i64 v) rfl
    have z0 := h1.free 0
    have hne' : ∀ (W : World) x, (W.setCell ⟨c, 0, none⟩ x).cell? ⟨pv, 0, none⟩ = W.cell? ⟨pv, 0, none⟩ := fun W x => World.cell?_setCell_other _ _ _ _ (fun h => hne (congrArg Addr.block h))
    clear e wv hb
    go_enter Try.func39, Try.ntmps39
    go_wp2_with fail
    go_ret
    exact ⟨by first | rfl | (rw [E.out]; rfl), (Kept.refl _ _).set _ _ (by simp), h1.set 0 _, h2.set_ne _ _ (fun e => hne e.symm)⟩
def SPre (pt : Nat) (s : ByteArray) (w : World) : Prop := Has w pt 9 [.string s]
theorem lazy2 (pt : Nat) (s : ByteArray) : Maker 41 #[.pointer (some ⟨pt, 0, none⟩)] (.string s) [pt] (SPre pt s) (SPre pt s) where
  enter := by intro w; simp [callFunc, Try.func41, go_sem]; rfl
  pre := fun w w' T h k hT => k.has h (fun hi => hT pt hi (by simp))
  post := fun w w' T h k hT => k.has h (fun hi => hT pt hi (by simp))
  call := by
    intro w h1
    have v0 := Has.cell h1 0 (v := .string s) rfl
    go_enter Try.func41, Try.ntmps41
    go_wp2_with fail
    go_ret
    exact ⟨rfl, Kept.refl _ _, h1⟩
end Go.Proofs.Ytlafkeijikbenaa.Law06
