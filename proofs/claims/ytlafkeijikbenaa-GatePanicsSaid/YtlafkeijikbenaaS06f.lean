/- The law GatePanics: a function that panics, through Once, Get, and the one that catches. -/
import Derived.Test.YtlafkeijikbenaaLazyC
import Derived.Recover
import Derived.Deep.RegionWith
import Derived.Deep.RegionHeld3
namespace Go.Proofs.Ytlafkeijikbenaa.Law06
open Go Go.RowKit Go.Proofs.Ytlafkeijikbenaa.Hp Go.Proofs.Ytlafkeijikbenaa.Atom Go.Proofs.Ytlafkeijikbenaa.AtomC Go.Proofs.Ytlafkeijikbenaa.OnceC Go.Proofs.Ytlafkeijikbenaa.GateC
set_option linter.unusedVariables false
set_option linter.unusedSimpArgs false
/-- The panic with the number n. -/
def thrown (n : Int) : PanicEntry := { v := .iface 3 (.int .i64 n), recovered := false }
def P2 (c pn : Nat) (n k : Int) (w : World) : Prop := Has w c 3 [.int .i64 k] ∧ Has w pn 3 [.int .i64 n]
theorem P2.kept {c pn : Nat} {n k : Int} {w w' : World} {S : List Nat} (h : P2 c pn n k w) (kk : Kept S w w') (h1 : c ∉ S) (h2 : pn ∉ S) : P2 c pn n k w' := ⟨kk.has h.1 h1, kk.has h.2 h2⟩
theorem maker_panics (c pn : Nat) (n : Int) (w : World) (h : P2 c pn n 0 w) (hne : c ≠ pn) :
    Calls Try.prog 46 #[.pointer (some ⟨c, 0, none⟩), .pointer (some ⟨pn, 0, none⟩)] w fun e w' => e = .panicked [thrown n] ∧ Kept [c] w w' ∧ P2 c pn n 1 w' := by
  obtain ⟨hc, hp⟩ := h
  have c0 := hc.cell 0 (v := .int .i64 0) rfl
  have z0 := hc.free 0
  have p0 := hp.cell 0 (v := .int .i64 n) rfl
  have hne' : ∀ (W : World) x, (W.setCell ⟨c, 0, none⟩ x).cell? ⟨pn, 0, none⟩ = W.cell? ⟨pn, 0, none⟩ := fun W x => World.cell?_setCell_other _ _ _ _ (fun h => hne (congrArg Addr.block h))
  go_enter Try.func46, Try.ntmps46
  go_wp2_with fail
  refine ⟨rfl, rfl, (Kept.refl _ _).set _ _ (by simp), hc.set 0 _, hp.set_ne _ _ (fun e => hne e.symm)⟩
set_option maxRecDepth 100000 in
set_option maxHeartbeats 1600000 in
theorem get1_panics (b p c pn : Nat) (n : Int) (u0 u1 u2 v u5 : Value) (w : World)
    (h : Has w b 114 [u0, u1, u2, .func (.func 46) #[] #[.pointer (some ⟨c, 0, none⟩), .pointer (some ⟨pn, 0, none⟩)], v, u5]) (hp : Has w p 69 [.pointer (some ⟨b, 0, none⟩)]) (hc : P2 c pn n 0 w) (hne : c ≠ pn) :
    Calls Try.prog 67 #[.pointer (some ⟨p, 0, none⟩)] w fun e w' => e = .panicked [thrown n] ∧ Kept [c] w w' ∧ P2 c pn n 1 w' := by
  have p0 := hp.cell 0 (v := .pointer (some ⟨b, 0, none⟩)) rfl
  have b3 := h.cell 3 (v := .func (.func 46) #[] #[.pointer (some ⟨c, 0, none⟩), .pointer (some ⟨pn, 0, none⟩)]) rfl
  have M := Lib.hid (maker_panics c pn n w.drew (hc.kept ((Kept.refl [] w).drew) (by simp) (by simp)) hne)
  clear hc
  go_enter Try.func67, Try.ntmps67
  go_wp2_with fail
  refine wp_region_any (by kernel_rfl) ?_
  refine wpAny_ready (rs := [0, 1]) (by kernel_rfl) (by simp) ?_
  refine AllReady.cons rfl (fun K hK => ?_) ?_
  · go_simp
    refine hK _ _ ?_
    clear hK K
    refine wpAny_ready (rs := [1]) (by kernel_rfl) (by simp) ?_
    refine AllReady.cons rfl (fun K hK => ?_) ?_
    · go_simp
      refine hK _ _ ?_
      clear hK K
      refine wpAny_take (i := 2) (v := ?_) rfl (by kernel_rfl) (by kernel_rfl) (by kernel_rfl) (fun _ _ _ h => h) (Or.inl ⟨by rfl, ?_⟩) ?_
      rotate_left
      · intro w
        go_simp
        try with_reducible rfl
      refine wpAny_take (i := 3) (v := ?_) rfl (by kernel_rfl) (by kernel_rfl) (by kernel_rfl) (fun _ _ _ h => h) (Or.inl ⟨by rfl, ?_⟩) ?_
      rotate_left
      · intro w
        go_simp
        try with_reducible rfl
      refine wpAny_ready (rs := [4]) (by kernel_rfl) (by simp) ?_
      refine AllReady.cons rfl (fun K hK => ?_) ?_
      · go_simp
        refine hK _ _ ?_
        clear hK K
        refine wpAny_ready (rs := [5]) (by kernel_rfl) (by simp) ?_
        refine AllReady.cons rfl (fun K hK => ?_) ?_
        · go_simp
          refine M.out.mono ?_
          rintro e w2 ⟨rfl, k2, h2⟩
          exact ⟨rfl, rfl, (((Kept.refl [c] w).drew).trans k2), h2⟩
        exact AllReady.nil
      exact AllReady.nil
    exact AllReady.nil
  refine AllReady.cons rfl (fun K hK => ?_) ?_
  · go_simp
    refine hK _ _ ?_
    clear hK K
    refine wpAny_take (i := 2) (v := ?_) rfl (by kernel_rfl) (by kernel_rfl) (by kernel_rfl) (fun _ _ _ h => h) (Or.inl ⟨by rfl, ?_⟩) ?_
    rotate_left
    · intro w
      go_simp
      try with_reducible rfl
    refine wpAny_take (i := 3) (v := ?_) rfl (by kernel_rfl) (by kernel_rfl) (by kernel_rfl) (fun _ _ _ h => h) (Or.inl ⟨by rfl, ?_⟩) ?_
    rotate_left
    · intro w
      go_simp
      try with_reducible rfl
    refine wpAny_ready (rs := [0, 4]) (by kernel_rfl) (by simp) ?_
    refine AllReady.cons rfl (fun K hK => ?_) ?_
    · go_simp
      refine hK _ _ ?_
      clear hK K
      refine wpAny_ready (rs := [4]) (by kernel_rfl) (by simp) ?_
      refine AllReady.cons rfl (fun K hK => ?_) ?_
      · go_simp
        refine hK _ _ ?_
        clear hK K
        refine wpAny_ready (rs := [5]) (by kernel_rfl) (by simp) ?_
        refine AllReady.cons rfl (fun K hK => ?_) ?_
        · go_simp
          refine M.out.mono ?_
          rintro e w2 ⟨rfl, k2, h2⟩
          exact ⟨rfl, rfl, (((Kept.refl [c] w).drew).trans k2), h2⟩
        exact AllReady.nil
      exact AllReady.nil
    refine AllReady.cons rfl (fun K hK => ?_) ?_
    · go_simp
      refine hK _ _ ?_
      clear hK K
      refine wpAny_ready (rs := [0, 5]) (by kernel_rfl) (by simp) ?_
      refine AllReady.cons rfl (fun K hK => ?_) ?_
      · go_simp
        refine hK _ _ ?_
        clear hK K
        refine wpAny_ready (rs := [5]) (by kernel_rfl) (by simp) ?_
        refine AllReady.cons rfl (fun K hK => ?_) ?_
        · go_simp
          refine M.out.mono ?_
          rintro e w2 ⟨rfl, k2, h2⟩
          exact ⟨rfl, rfl, (((Kept.refl [c] w).drew).trans k2), h2⟩
        exact AllReady.nil
      refine AllReady.cons rfl (fun K hK => ?_) ?_
      · go_simp
        refine M.out.mono ?_
        rintro e w2 ⟨rfl, k2, h2⟩
        exact ⟨rfl, rfl, (((Kept.refl [c] w).drew).trans k2), h2⟩
      exact AllReady.nil
    exact AllReady.nil
  exact AllReady.nil
/-- What a function that panics leaves: the Once's own cells as they were; and R. -/
def MidP (b off : Nat) (ch : List PanicEntry) (R : World → Prop) (e : Ending) (W : World) : Prop :=
  e = .panicked ch ∧ W.cell? ⟨b, off, none⟩ = some (.int .u32 0) ∧ W.cell? ⟨b, off + 1, none⟩ = some (.int .i32 1) ∧ W.frozen? ⟨b, off, none⟩ = false ∧ W.frozen? ⟨b, off + 1, none⟩ = false ∧ R W
def DoneP (b off : Nat) (ch : List PanicEntry) (R : World → Prop) (e : Ending) (w' : World) : Prop :=
  e = .panicked ch ∧ ∃ W, R W ∧ w' = ((W.drew).setCell ⟨b, off, none⟩ (.int .u32 1)).setCell ⟨b, off + 1, none⟩ (.int .i32 0)
set_option maxRecDepth 100000 in
set_option maxHeartbeats 1600000 in
theorem slow_panics (b off : Nat) (F : FuncId) (cap : Array Value) (n : Int) (w : World) (R : World → Prop) (h0 : w.cell? ⟨b, off, none⟩ = some (.int .u32 0)) (h1 : w.cell? ⟨b, off + 1, none⟩ = some (.int .i32 0))
    (f0 : w.frozen? ⟨b, off, none⟩ = false) (f1 : w.frozen? ⟨b, off + 1, none⟩ = false) (hcf : ∀ w, (callFunc F cap).run Try.prog w = .ok (.enter F cap) w)
    (hcall : Calls Try.prog F cap (w.setCell ⟨b, off + 1, none⟩ (.int .i32 1)) (MidP b off [thrown n] R)) :
    Calls Try.prog 86 #[.pointer (some ⟨b, off, none⟩), .func (.func F) #[] cap] w (DoneP b off [thrown n] R) := by
  have hL : (w.setCell ⟨b, off + 1, none⟩ (.int .i32 1)).cell? ⟨b, off, none⟩ = some (.int .u32 (b32 false)) := (World.cell?_setCell_other _ ⟨b, off + 1, none⟩ ⟨b, off, none⟩ _ (by simp)).trans h0
  have hn := hnot
  have H := Lib.hid hcall
  clear hcall
  go_enter_defers Try.func86, Try.ntmps86
  go_wp2_with (first | (go_at_call 88; refine (lock_free ⟨b, off + 1, none⟩ _ h1 f1).mono ?_; rintro e w' ⟨rfl, rfl⟩) | (go_at_call 54; refine (bool_load _ false _ hL).mono ?_; rintro e w' ⟨rfl, rfl⟩))
  refine H.out.mono ?_
  rintro e W ⟨rfl, m0, m1, g0, g1, hR⟩
  have HR := Lib.hid hR
  clear hR
  go_wp2_with fail
  refine leaves_cons (f := 68) (args := #[.pointer (some ⟨b, off, none⟩), .bool true]) (by simp) (by simp [go_sem]) ?_
  refine (store_deferred ⟨b, off, none⟩ (.int .u32 0) (.panicking [thrown n]) _ m0 g0).mono ?_
  rintro e u' w'' ⟨rfl, rfl, rfl⟩
  refine leaves_cons (f := 89) (args := #[.pointer (some ⟨b, off + 1, none⟩)]) (by simp [settle, thrown]) (by simp [go_sem]) ?_
  refine (unlock_deferred ⟨b, off + 1, none⟩ _ _ ?_ (by simp [g1])).mono ?_
  · refine (World.cell?_setCell_other _ ⟨b, off, none⟩ ⟨b, off + 1, none⟩ _ (by simp)).trans ?_
    rw [World.cell?_drew]; exact m1
  rintro e u' w'' ⟨rfl, rfl, rfl⟩
  exact ⟨rfl, W, HR.out, rfl⟩
theorem do_panics (b off : Nat) (F : FuncId) (cap : Array Value) (n : Int) (w : World) (R : World → Prop) (h0 : w.cell? ⟨b, off, none⟩ = some (.int .u32 0)) (h1 : w.cell? ⟨b, off + 1, none⟩ = some (.int .i32 0))
    (f0 : w.frozen? ⟨b, off, none⟩ = false) (f1 : w.frozen? ⟨b, off + 1, none⟩ = false) (hcf : ∀ w, (callFunc F cap).run Try.prog w = .ok (.enter F cap) w)
    (hcall : Calls Try.prog F cap (w.setCell ⟨b, off + 1, none⟩ (.int .i32 1)) (MidP b off [thrown n] R)) :
    Calls Try.prog 65 #[.pointer (some ⟨b, off, none⟩), .func (.func F) #[] cap] w (DoneP b off [thrown n] R) := by
  have hn := hnot
  have H := Lib.hid (slow_panics b off F cap n w R h0 h1 f0 f1 hcf hcall)
  clear hcall
  go_enter Try.func65, Try.ntmps65
  go_wp2_with (first | (go_at_call 54; refine (bool_load _ false _ h0).mono ?_; rintro e w' ⟨rfl, rfl⟩))
  refine H.out.mono ?_
  rintro e w' ⟨rfl, W, hR, hw⟩
  have HR := Lib.hid hR
  have HW := Lib.hid hw
  clear hR hw
  go_wp2_with fail
  exact ⟨rfl, rfl, W, HR.out, HW.out⟩
def fP (c pn : Nat) : Value := .func (.func 46) #[] #[.pointer (some ⟨c, 0, none⟩), .pointer (some ⟨pn, 0, none⟩)]
set_option maxRecDepth 100000 in
set_option maxHeartbeats 1600000 in
theorem get_panics (b c pn : Nat) (n : Int) (w : World) (h : IsL w b false false (fP c pn) (.int .i64 0)) (hc : P2 c pn n 0 w) (hne : c ≠ pn) :
    Calls Try.prog 44 #[.pointer (some ⟨b, 0, none⟩)] w fun e w' => e = .panicked [thrown n] ∧ Kept [b, c] w w' ∧ IsL w' b true false (fP c pn) (.int .i64 0) ∧ P2 c pn n 1 w' := by
  have hbl := h.lt
  have hbp : b ≠ w.heap.size := Nat.ne_of_lt hbl
  have hbc : b ≠ c := Has.ne h hc.1 (by decide)
  have hbn : b ≠ pn := Has.ne h hc.2 (by decide)
  have hcl := hc.1.lt
  have hL1 := h.alloc (.cells #[.pointer (some ⟨b, 0, none⟩)] 69)
  have hP1 := Has.new w 69 [.pointer (some ⟨b, 0, none⟩)]
  have hk1 : Kept [b, c] w (w.alloc (.cells #[.pointer (some ⟨b, 0, none⟩)] 69)) := (Kept.refl _ _).alloc _
  have hc1 := hc.kept ((Kept.refl [] w).alloc (.cells #[.pointer (some ⟨b, 0, none⟩)] 69)) (by simp) (by simp)
  have hmf : ∀ (fn : Fn) (first cap : Array Value) (w : World), (Instr.makeFunc fn first cap).run Try.prog w = .ok (.func fn first cap) w := fun _ _ _ _ => rfl
  have hpc : w.heap.size ≠ c := by omega
  have K1 := Lib.hid hk1
  clear hk1 h hc
  go_enter Try.func44, Try.ntmps44
  go_upto_region 1 with (fail)
  generalize w.alloc (.cells #[.pointer (some ⟨b, 0, none⟩)] 69) = w1 at *
  generalize w.heap.size = p at *
  have p0 := hP1.cell 0 (v := .pointer (some ⟨b, 0, none⟩)) rfl
  have b3 := hL1.cell 3 (v := fP c pn) rfl
  unfold fP at b3
  have hnf : ∀ w : World, (binOp .eql 65 (.func (.func 46) #[] #[.pointer (some ⟨c, 0, none⟩), .pointer (some ⟨pn, 0, none⟩)]) .nilFunc).run Try.prog w = .ok (.bool false) w := fun w => by kernel_rfl
  go_wp2_with fail
  have hcf : ∀ w, (callFunc 67 #[.pointer (some ⟨p, 0, none⟩)]).run Try.prog w = .ok (.enter 67 #[.pointer (some ⟨p, 0, none⟩)]) w := by
    intro w; simp [callFunc, Try.func67, go_sem]; rfl
  have hL2 := hL1.set 1 (.int .i32 1)
  have hP2 := hP1.set_ne ⟨b, 1, none⟩ (.int .i32 1) (fun e => hbp e.symm)
  have hc2 := hc1.kept ((Kept.refl [b] w1).set ⟨b, 1, none⟩ (.int .i32 1) (by simp)) (by simp; exact fun e => hbc e.symm) (by simp; exact fun e => hbn e.symm)
  refine (do_panics b 0 67 _ n w1 (fun W' => Kept [c] (w1.setCell ⟨b, 1, none⟩ (.int .i32 1)) W' ∧ P2 c pn n 1 W') (hL1.cell 0 rfl) (hL1.cell 1 rfl) (hL1.free 0) (hL1.free 1) hcf ?_).mono ?_
  · refine (get1_panics b p c pn n _ _ _ _ _ _ hL2 hP2 hc2 hne).mono ?_
    rintro e W' ⟨rfl, k, hh⟩
    have hx := k.has hL2 (by simp; exact hbc)
    exact ⟨rfl, hx.cell 0 rfl, hx.cell 1 rfl, hx.free 0, hx.free 1, k, hh⟩
  rintro e w5 ⟨rfl, W', ⟨k, hh⟩, hw⟩
  have hx := k.has hL2 (by simp; exact hbc)
  have k5 : Kept [b, c] w1 w5 := by
    rw [hw]
    exact ((((Kept.refl [b, c] w1).set ⟨b, 1, none⟩ (.int .i32 1) (by simp)).trans (k.mono (by simp))).drew.set ⟨b, 0, none⟩ _ (by simp)).set ⟨b, 1, none⟩ _ (by simp)
  have h5 : IsL w5 b true false (fP c pn) (.int .i64 0) := by
    rw [hw]; exact (hx.drew.set 0 (.int .u32 1)).set 1 (.int .i32 0)
  have q5 : P2 c pn n 1 w5 := by
    rw [hw]; exact hh.kept (((Kept.refl [b] W').drew.set ⟨b, 0, none⟩ _ (by simp)).set ⟨b, 1, none⟩ _ (by simp)) (by simp; exact fun e => hbc e.symm) (by simp; exact fun e => hbn e.symm)
  exact ⟨rfl, rfl, K1.out.trans k5, h5, q5⟩
end Go.Proofs.Ytlafkeijikbenaa.Law06
