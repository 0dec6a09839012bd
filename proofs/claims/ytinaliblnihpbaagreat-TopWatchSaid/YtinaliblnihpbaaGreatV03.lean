/- The walks and the plain laws of DogC, MemC, CellC, CellW, CellR, CellO. -/
import Derived.Test.YtinaliblnihpbaaGreatV01
import Derived.Test.YtinaliblnihpbaaGreatV02
import Derived.Laws.BitsAllLaws
import Derived.Deep.RegionHeld3
set_option linter.unusedVariables false
set_option linter.unusedSimpArgs false
open Go.Lib (hid)
namespace Go.Proofs.YtinaliblnihpbaaGreat
namespace AtomC
open Go Go.RowKit Hp Atom
theorem i32_load (a : Addr) (x : Int) (w : World) (hc : w.cell? a = some (.int .i32 x)) :
    Calls Tryz.prog 109 #[.pointer (some a)] w fun e w' => e = .returned (.int .i32 x) ∧ w' = w := by
  have hl := run_call_load (P := Tryz.prog) Tryz.func140 (by kernel_rfl) (by kernel_rfl) (by kernel_rfl) .i32 (by kernel_rfl) hc
  go_enter Tryz.func109, Tryz.ntmps109
  go_wp2
  go_ret
  exact ⟨rfl, rfl⟩
theorem i32_store (a : Addr) (u : Value) (y : Int) (w : World) (hc : w.cell? a = some u) (hz : w.frozen? a = false) :
    Calls Tryz.prog 194 #[.pointer (some a), .int .i32 y] w fun e w' => e = .returned (.tuple #[]) ∧ w' = w.setCell a (.int .i32 y) := by
  have hl := run_call_store (P := Tryz.prog) Tryz.func200 (by kernel_rfl) (by kernel_rfl) (by kernel_rfl) (by kernel_rfl) (k := .i32) (y := y) hc hz
  go_enter Tryz.func194, Tryz.ntmps194
  go_wp2
  go_end0
  exact ⟨rfl, rfl⟩
theorem i32_add (a : Addr) (x y : Int) (w : World) (hc : w.cell? a = some (.int .i32 x)) (hz : w.frozen? a = false) :
    Calls Tryz.prog 136 #[.pointer (some a), .int .i32 y] w fun e w' => e = .returned (.int .i32 (IntKind.i32.wrap (x + y))) ∧ w' = w.setCell a (.int .i32 (IntKind.i32.wrap (x + y))) := by
  have hl := run_call_add (P := Tryz.prog) Tryz.func169 (by kernel_rfl) (by kernel_rfl) (by kernel_rfl) .i32 (by kernel_rfl) (y := y) (s := IntKind.i32.wrap (x + y)) hc hz (by simp [go_sem])
  generalize IntKind.i32.wrap (x + y) = z at hl ⊢
  go_enter Tryz.func136, Tryz.ntmps136
  go_wp2
  go_ret
  exact ⟨rfl, rfl⟩
end AtomC
namespace DogC
open Go Go.RowKit Hp AtomC TM
structure IsDog (w : World) (d : Nat) (limit since : Int) : Prop where
  has : Has w d 207 [.int .i64 limit, .int .i32 since]
  low : 0 ≤ since
  le : since ≤ limit
  top : limit ≤ 1048576
theorem IsDog.kept {w w' : World} {d : Nat} {limit since : Int} {S : List Nat} (h : IsDog w d limit since) (k : Kept S w w') (hS : d ∉ S) : IsDog w' d limit since := ⟨k.has h.has hS, h.low, h.le, h.top⟩
theorem i64_id {x : Int} (h1 : -9223372036854775808 ≤ x) (h2 : x < 9223372036854775808) : IntKind.i64.wrap x = x := by rw [IntKind.wrap_i64]; omega
theorem wrap64_id {x : Int} (h1 : -9223372036854775808 ≤ x) (h2 : x < 9223372036854775808) : wrap64 x = x := by unfold wrap64; omega
theorem wrap32_id {x : Int} (h1 : -2147483648 ≤ x) (h2 : x < 2147483648) : wrap32 x = x := by unfold wrap32; omega
theorem i32_id {x : Int} (h1 : -2147483648 ≤ x) (h2 : x < 2147483648) : IntKind.i32.wrap x = x := by rw [IntKind.wrap_i32]; omega
theorem new_call (n : Int) (h1 : 1 ≤ n) (h2 : n ≤ 1048576) (w : World) : Calls Tryz.prog 90 #[.int .i64 n] w fun e w' => e = .returned (.tuple #[.pointer (some ⟨w.heap.size, 0, none⟩), .int .i64 0]) ∧ Kept [] w w' ∧ IsDog w' w.heap.size n 0 := by
  have e1 : decide (n < 1) = false := by simpa using h1
  have e2 : decide (n > 1048576) = false := by simpa using h2
  go_enter Tryz.func90, Tryz.ntmps90
  go_wp2
  go_ret2
  exact ⟨rfl, (Kept.refl _ _).alloc _, Has.new w _ _, by omega, by omega, h2⟩
theorem since_call (d : Nat) (limit since : Int) (w : World) (h : IsDog w d limit since) : Calls Tryz.prog 81 #[.pointer (some ⟨d, 0, none⟩)] w fun e w' => e = .returned (.int .i64 since) ∧ w' = w := by
  have c1 := h.has.cell 1 (v := .int .i32 since) rfl
  have ew : IntKind.i64.wrap since = since := i64_id (by have := h.low; omega) (by have := h.le; have := h.top; omega)
  clear h
  go_enter Tryz.func81, Tryz.ntmps81
  go_wp2_with (first | (go_at_call 109; refine (i32_load _ _ _ c1).mono ?_; rintro e w' ⟨rfl, rfl⟩))
  go_ret
  exact ⟨by rw [← ew]; rfl, rfl⟩
theorem expired_call (d : Nat) (limit since : Int) (w : World) (h : IsDog w d limit since) : Calls Tryz.prog 135 #[.pointer (some ⟨d, 0, none⟩)] w fun e w' => e = .returned (.bool (decide (since ≥ limit))) ∧ ∃ n, w' = w.drewN n := by
  have c1 := fun n => (h.has.drewN n).cell 1 (v := .int .i32 since) rfl
  have c0 := fun n => (h.has.drewN n).cell 0 (v := .int .i64 limit) rfl
  have ew : IntKind.i64.wrap since = since := i64_id (by have := h.low; omega) (by have := h.le; have := h.top; omega)
  have T1 := hid (fun n => i32_load ⟨d, 1, none⟩ since (w.drewN n) (c1 n))
  have z0 := c0 0
  clear h
  go_enter Tryz.func135, Tryz.ntmps135
  go_wp2_with fail
  go_quiet (first | (go_at_call 109; exact Calls.quiet_of_same (T1.out _)))
  go_wp2_with fail
  go_ret
  exact ⟨rfl, _, rfl⟩
theorem feed_call (d : Nat) (limit since : Int) (w : World) (h : IsDog w d limit since) : Calls Tryz.prog 183 #[.pointer (some ⟨d, 0, none⟩)] w fun e w' => e = .returned (.tuple #[]) ∧ Kept [d] w w' ∧ IsDog w' d limit 0 := by
  have c1 := h.has.cell 1 (v := .int .i32 since) rfl
  have z1 := h.has.free 1
  have h9 : IsDog (w.setCell ⟨d, 1, none⟩ (.int .i32 0)) d limit 0 := ⟨h.has.set 1 (.int .i32 0), by omega, by have := h.low; have := h.le; omega, h.top⟩
  have H9 := hid h9
  clear h h9
  go_enter Tryz.func183, Tryz.ntmps183
  go_wp2_with (first | (go_at_call 194; refine (i32_store _ _ _ _ c1 z1).mono ?_; rintro e w' ⟨rfl, rfl⟩))
  go_end0
  exact ⟨rfl, (Kept.refl [d] w).set ⟨d, 1, none⟩ _ (by simp), H9.out⟩
theorem ticks_call (d : Nat) (limit since n : Int) (w : World) (h : IsDog w d limit since) (hn : 0 ≤ n) (hn2 : n ≤ 1048576) : Calls Tryz.prog 103 #[.pointer (some ⟨d, 0, none⟩), .int .i64 n] w fun e w' => e = .returned (.tuple #[.bool (barks limit since n), .int .i64 0]) ∧ Kept [d] w w' ∧ IsDog w' d limit (ticked limit since n) := by
  have e1 : decide (n < 0) = false := by simpa using hn
  by_cases hx : since ≥ limit
  · have e2 : decide (since ≥ limit) = true := by simpa using hx
    have eb : barks limit since n = false := by simp [barks]; omega
    have et : ticked limit since n = since := by simp only [ticked, if_pos hx]
    rw [eb, et]
    have X := hid (expired_call d limit since w h)
    have H := hid h
    clear h hx eb et hn hn2
    go_enter Tryz.func103, Tryz.ntmps103
    go_wp2_with fail
    refine X.out.mono ?_
    rintro e w' ⟨rfl, m, rfl⟩
    go_wp2_with fail
    go_ret2
    exact ⟨rfl, (Kept.refl _ _).drewN _, H.out.kept ((Kept.refl [] w).drewN m) (by simp)⟩
  · have e2 : decide (since ≥ limit) = false := by simpa using hx
    have eb : barks limit since n = decide (n ≥ limit - since) := by simp [barks]; omega
    have et : ticked limit since n = since + min n (limit - since) := by simp only [ticked, if_neg hx]
    have hlow := h.low
    have hle := h.le
    have htop := h.top
    have ew : wrap64 (limit - since) = limit - since := wrap64_id (by omega) (by omega)
    have X := hid (expired_call d limit since w h)
    have H := hid h
    have LE := hid (And.intro hlow (And.intro hle htop))
    have EB := hid eb
    have ET := hid et
    have HX := hid hx
    clear h hx eb et hlow hle htop
    go_enter Tryz.func103, Tryz.ntmps103
    go_wp2_with fail
    refine X.out.mono ?_
    rintro e w1 ⟨rfl, m, hw⟩
    have k1 : Kept [] w w1 := hw ▸ (Kept.refl [] w).drewN m
    clear hw
    have H1 := hid (H.out.kept k1 (by simp))
    have K1 := hid k1
    have c0 := H1.out.has.cell 0 (v := .int .i64 limit) rfl
    have SC := hid (fun q => since_call d limit since (w1.drewN q) (H1.out.kept ((Kept.refl [] w1).drewN q) (by simp)))
    clear k1 X
    go_wp2_with fail
    go_quiet (first | (go_at_call 81; exact Calls.quiet_of_same (SC.out _)))
    rw [ew]
    have k2 := (Kept.refl [] w1).drewN nq
    have K2 := hid (K1.out.trans k2)
    have H2 := hid (H1.out.kept k2 (by simp))
    clear k2 SC c0 K1 H1
    generalize w1.drewN nq = w2 at *
    have c1 := H2.out.has.cell 1 (v := .int .i32 since) rfl
    have z1 := H2.out.has.free 1
    by_cases hb : limit - since < n
    · have e7 : decide (n ≥ limit - since) = true := decide_eq_true (by omega)
      have em : wrap32 (limit - since) = (limit - since) := wrap32_id (by have := LE.out; have := HX.out; omega) (by have := LE.out; omega)
      have ea : IntKind.i32.wrap (since + (limit - since)) = since + (limit - since) := i32_id (by have := LE.out; have := HX.out; omega) (by have := LE.out; omega)
      go_wp2_with fail
      refine (i32_add ⟨d, 1, none⟩ since (limit - since) _ c1 z1).mono ?_
      rintro e w3 ⟨rfl, rfl⟩
      rw [ea]
      have k3 := (Kept.refl [d] w2).set ⟨d, 1, none⟩ (.int .i32 (since + (limit - since))) (by simp)
      have K3 := hid ((K2.out.mono (by simp)).trans k3)
      have H3 := hid (show IsDog _ d limit (since + (limit - since)) from ⟨H2.out.has.set 1 (.int .i32 (since + (limit - since))), by have := LE.out; have := HX.out; omega, by have := LE.out; have := HX.out; omega, by have := LE.out; omega⟩)
      clear k3 K2 H2 em ea c1 z1
      generalize w2.setCell _ _ = w3 at *
      go_wp2_with fail
      go_ret2
      exact ⟨by rw [EB.out, e7]; rfl, K3.out, by rw [ET.out, Int.min_eq_right (by omega)]; exact H3.out⟩
    · have hb2 : n ≤ limit - since := by omega
      clear hb
      have hn1 := hid (And.intro hn hn2)
      have em : wrap32 n = n := wrap32_id (by have := LE.out; have := HX.out; have := hn1.out; omega) (by have := LE.out; have := hn1.out; omega)
      have ea : IntKind.i32.wrap (since + n) = since + n := i32_id (by have := LE.out; have := HX.out; have := hn1.out; omega) (by have := LE.out; have := hn1.out; omega)
      go_wp2_with fail
      refine (i32_add ⟨d, 1, none⟩ since n _ c1 z1).mono ?_
      rintro e w3 ⟨rfl, rfl⟩
      rw [ea]
      have k3 := (Kept.refl [d] w2).set ⟨d, 1, none⟩ (.int .i32 (since + n)) (by simp)
      have K3 := hid ((K2.out.mono (by simp)).trans k3)
      have H3 := hid (show IsDog _ d limit (since + n) from ⟨H2.out.has.set 1 (.int .i32 (since + n)), by have := LE.out; have := HX.out; have := hn1.out; omega, by have := LE.out; have := HX.out; have := hn1.out; omega, by have := LE.out; omega⟩)
      clear k3 K2 H2 em ea c1 z1
      generalize w2.setCell _ _ = w3 at *
      go_wp2_with fail
      go_ret2
      exact ⟨by rw [EB.out]; rfl, K3.out, by rw [ET.out, Int.min_eq_left (by omega)]; exact H3.out⟩
end DogC
namespace MemC
open Go Go.RowKit Hp Sl AtomC TM DogC
def mcells (mb : Nat) (x : M) (wr : Int) : List Value := [.slice (some ⟨mb, 0, none⟩) 16 16, .int .u32 (b32 x.off), .bool x.armed, .int .i64 x.left, .int .i64 wr]
structure MOk (x : M) : Prop where
  len : x.b.length = 16
  by_ : ∀ z ∈ x.b, 0 ≤ z ∧ z < 256
  low : 0 ≤ x.left
  top : x.left < 9223372036854775808
def IsMem (w : World) (m mb : Nat) (x : M) : Prop := ∃ wr, Has w m 126 (mcells mb x wr) ∧ Has w mb 5 (U8 x.b) ∧ MOk x
theorem Has.ne {w : World} {b b' : Nat} {T T' : TypeId} {cs cs' : List Value} (h : Has w b T cs) (h' : Has w b' T' cs') (hne : T ≠ T') : b ≠ b' := by
  rintro rfl
  unfold Has at h h'
  rw [h] at h'
  simp at h'
  exact hne h'.2
theorem IsMem.kept {w w' : World} {m mb : Nat} {x : M} {S : List Nat} (h : IsMem w m mb x) (k : Kept S w w') (h1 : m ∉ S) (h2 : mb ∉ S) : IsMem w' m mb x := by
  obtain ⟨wr, a, b, c⟩ := h; exact ⟨wr, k.has a h1, k.has b h2, c⟩
theorem IsMem.lt {w : World} {m mb : Nat} {x : M} (h : IsMem w m mb x) : m < w.heap.size ∧ mb < w.heap.size := by obtain ⟨wr, a, b, c⟩ := h; exact ⟨a.lt, b.lt⟩
theorem IsMem.ne {w : World} {m mb : Nat} {x : M} (h : IsMem w m mb x) : m ≠ mb := by obtain ⟨wr, a, b, c⟩ := h; exact Has.ne a b (by decide)
theorem MOk.write {x : M} (h : MOk x) (i : Nat) (c : Int) (hc : 0 ≤ c ∧ c < 256) : MOk (x.write i c).1 := by
  obtain ⟨b, off, armed, left⟩ := x
  obtain ⟨h1, h2, h3, h4⟩ := h
  simp only at h1 h2 h3 h4
  unfold M.write
  simp only
  split
  · exact ⟨h1, h2, h3, h4⟩
  · split
    · exact ⟨h1, h2, h3, h4⟩
    · rename_i hna
      refine ⟨by simpa using h1, fun z hz => ?_, ?_, ?_⟩
      · rcases List.mem_or_eq_of_mem_set hz with hz | rfl
        · exact h2 z hz
        · exact hc
      · simp only; split
        · rename_i ha; simp [ha] at hna; omega
        · exact h3
      · simp only; split <;> omega
theorem new_call (w : World) : Calls Tryz.prog 29 #[.int .i64 16] w fun e w' => ∃ m mb, e = .returned (.tuple #[.pointer (some ⟨m, 0, none⟩), .int .i64 0]) ∧ Kept [] w w' ∧ IsMem w' m mb M.new ∧ w.heap.size ≤ m ∧ w.heap.size ≤ mb := by
  obtain ⟨i0, hi, hz0, hz1, hz2⟩ := info_parts info5
  have hm := run_make (P := Tryz.prog) w 36 5 i0 (.int .u8 0) Tryz.underlying36 hi hz0 .i64 .i64 16 16 (by omega) (by omega) (by rw [hz2]; omega) (by omega)
  have ez : (madeCells (Value.int .u8 0).cells (16 * i0.size)) = (U8 (List.replicate 16 0)).toArray := by rw [hz1, Nat.mul_one, ← ValveC.made_u8]
  have e16 : (16 : Int).toNat = 16 := rfl
  rw [e16, ez] at hm
  have hB := Has.new w 5 (U8 (List.replicate 16 0))
  have hM := Has.new (w.alloc (.cells (U8 (List.replicate 16 0)).toArray 5)) 126 (mcells w.heap.size M.new 0)
  rw [World.size_alloc] at hM
  have hk := ((Kept.refl [] w).alloc (.cells (U8 (List.replicate 16 0)).toArray 5)).alloc (.cells (mcells w.heap.size M.new 0).toArray 126)
  have HB := hid (hB.alloc (.cells (mcells w.heap.size M.new 0).toArray 126))
  have HM := hid hM
  have HK := hid hk
  clear hB hM hk ez e16
  go_enter Tryz.func29, Tryz.ntmps29
  go_wp2
  go_ret2
  refine ⟨_, _, rfl, HK.out, ⟨0, HM.out, HB.out, rfl, by decide, by decide, by decide⟩, by simp, Nat.le_refl _⟩
theorem size_call (m mb : Nat) (x : M) (w : World) (h : IsMem w m mb x) : Calls Tryz.prog 92 #[.pointer (some ⟨m, 0, none⟩)] w fun e w' => e = .returned (.int .i64 16) ∧ w' = w := by
  obtain ⟨wr, h1, h2, h3⟩ := h
  have c0 := h1.cell 0 (v := .slice (some ⟨mb, 0, none⟩) 16 16) rfl
  clear h1 h2 h3
  go_enter Tryz.func92, Tryz.ntmps92
  go_wp2
  go_ret
  exact ⟨rfl, rfl⟩
theorem off_call (m mb : Nat) (x : M) (w : World) (h : IsMem w m mb x) : Calls Tryz.prog 201 #[.pointer (some ⟨m, 0, none⟩)] w fun e w' => e = .returned (.bool x.off) ∧ w' = w := by
  obtain ⟨wr, h1, h2, h3⟩ := h
  have c1 := h1.cell 1 (v := .int .u32 (b32 x.off)) rfl
  clear h1 h2 h3
  go_enter Tryz.func201, Tryz.ntmps201
  go_wp2_with (first | (go_at_call 142; refine (bool_load _ _ _ c1).mono ?_; rintro e w' ⟨rfl, rfl⟩))
  go_ret
  exact ⟨rfl, rfl⟩
theorem arm_call (m mb : Nat) (x : M) (n : Int) (hn : 0 ≤ n) (hn2 : n < 9223372036854775808) (w : World) (h : IsMem w m mb x) : Calls Tryz.prog 41 #[.pointer (some ⟨m, 0, none⟩), .int .i64 n] w fun e w' => e = .returned (.int .i64 0) ∧ Kept [m] w w' ∧ IsMem w' m mb (x.arm n) := by
  have hne := h.ne
  obtain ⟨wr, h1, h2, h3⟩ := h
  have c2 := h1.cell 2 (v := .bool x.armed) rfl
  have c3 := h1.cell 3 (v := .int .i64 x.left) rfl
  have z2 := h1.free 2
  have z3 := h1.free 3
  have e1 : decide (n < 0) = false := by simpa using hn
  have hM := (h1.set 2 (.bool true)).set 3 (.int .i64 n)
  have hk := ((Kept.refl [m] w).set ⟨m, 2, none⟩ (.bool true) (by simp)).set ⟨m, 3, none⟩ (.int .i64 n) (by simp)
  have H9 := hid (show IsMem _ m mb (x.arm n) from ⟨wr, hM, hk.has h2 (by simp; exact hne.symm), h3.len, h3.by_, hn, hn2⟩)
  have K9 := hid hk
  clear h1 h2 h3 hM hk hn
  go_enter Tryz.func41, Tryz.ntmps41
  go_wp2
  go_ret
  exact ⟨rfl, K9.out, H9.out⟩
theorem on_call (m mb : Nat) (x : M) (w : World) (h : IsMem w m mb x) : Calls Tryz.prog 107 #[.pointer (some ⟨m, 0, none⟩)] w fun e w' => e = .returned (.tuple #[]) ∧ Kept [m] w w' ∧ IsMem w' m mb x.on := by
  have hne := h.ne
  obtain ⟨wr, h1, h2, h3⟩ := h
  have c2 := h1.cell 2 (v := .bool x.armed) rfl
  have z2 := h1.free 2
  have hM := h1.set 2 (.bool false)
  have c1 := hM.cell 1 (v := .int .u32 (b32 x.off)) rfl
  have z1 := hM.free 1
  have hk := (((Kept.refl [m] w).set ⟨m, 2, none⟩ (.bool false) (by simp)).drew.set ⟨m, 1, none⟩ (.int .u32 (b32 false)) (by simp))
  have H9 := hid (show IsMem _ m mb x.on from ⟨wr, hM.drew.set 1 (.int .u32 (b32 false)), hk.has h2 (by simp; exact hne.symm), h3.len, h3.by_, h3.low, h3.top⟩)
  have K9 := hid hk
  clear h1 h2 h3 hM hk
  go_enter Tryz.func107, Tryz.ntmps107
  go_wp2_with (first | (go_at_call 139; refine (bool_store _ _ false _ c1 z1).mono ?_; rintro e w' ⟨rfl, rfl⟩))
  go_end0
  exact ⟨rfl, K9.out, H9.out⟩
theorem U8_get (l : List Int) (i : Nat) (h : i < l.length) : (U8 l)[i]? = some (.int .u8 (l.getD i 0)) := by
  simp [U8, List.getElem?_map, List.getElem?_eq_getElem h]
theorem U8_set (l : List Int) (i : Nat) (x : Int) : (U8 l).set i (.int .u8 x) = U8 (l.set i x) := by simp [U8, List.map_set]
theorem read_call (m mb : Nat) (x : M) (i : Nat) (hi : i < 16) (w : World) (h : IsMem w m mb x) : Calls Tryz.prog 114 #[.pointer (some ⟨m, 0, none⟩), .int .i64 (i : Nat)] w fun e w' => e = .returned (.tuple #[.int .u8 (if x.off then 0 else x.b.getD i 0), .int .i64 (if x.off then 70 else 0)]) ∧ w' = w := by
  obtain ⟨wr, h1, h2, h3⟩ := h
  have c0 := h1.cell 0 (v := .slice (some ⟨mb, 0, none⟩) 16 16) rfl
  have c1 := h1.cell 1 (v := .int .u32 (b32 x.off)) rfl
  have b0 := h2.cell i (U8_get x.b i (by rw [h3.len]; exact hi))
  have e1 : decide ((i : Int) < 0) = false := by simp
  have e2 : decide ((i : Int) ≥ 16) = false := by simp; omega
  generalize x.b.getD i 0 = z at *
  clear h1 h2 h3
  cases hx : x.off <;> rw [hx] at c1 <;> clear hx
  · go_enter Tryz.func114, Tryz.ntmps114
    go_wp2_with (first | (go_at_call 142; refine (bool_load _ _ _ c1).mono ?_; rintro e w' ⟨rfl, rfl⟩))
    go_ret2
    exact ⟨rfl, rfl⟩
  · go_enter Tryz.func114, Tryz.ntmps114
    go_wp2_with (first | (go_at_call 142; refine (bool_load _ _ _ c1).mono ?_; rintro e w' ⟨rfl, rfl⟩))
    go_ret2
    exact ⟨rfl, rfl⟩
set_option maxHeartbeats 1600000 in
theorem write_call (m mb : Nat) (x : M) (i : Nat) (c : Int) (hi : i < 16) (hc : 0 ≤ c ∧ c < 256) (w : World) (h : IsMem w m mb x) : Calls Tryz.prog 116 #[.pointer (some ⟨m, 0, none⟩), .int .i64 (i : Nat), .int .u8 c] w fun e w' => e = .returned (.int .i64 (x.write i c).2) ∧ Kept [m, mb] w w' ∧ IsMem w' m mb (x.write i c).1 := by
  have hne := h.ne
  obtain ⟨wr, h1, h2, h3⟩ := h
  have OK := hid (h3.write i c hc)
  obtain ⟨b, off, armed, left⟩ := x
  have hlen : b.length = 16 := h3.len
  have hlow : 0 ≤ left := h3.low
  have htop : left < 9223372036854775808 := h3.top
  have c0 := h1.cell 0 (v := .slice (some ⟨mb, 0, none⟩) 16 16) rfl
  have c1 := h1.cell 1 (v := .int .u32 (b32 off)) rfl
  have c2 := h1.cell 2 (v := .bool armed) rfl
  have c3 := h1.cell 3 (v := .int .i64 left) rfl
  have c4 := h1.cell 4 (v := .int .i64 wr) rfl
  have z1 := h1.free 1
  have z3 := h1.free 3
  have z4 := h1.free 4
  have e1 : decide ((i : Int) < 0) = false := by simp
  have e2 : decide ((i : Int) ≥ 16) = false := by simp; omega
  have b0 := h2.cell i (U8_get b i (by rw [hlen]; exact hi))
  have zb := h2.free i
  have H1 := hid h1
  have H2 := hid h2
  have HI := hid hi
  clear h1 h2 h3
  cases off
  case true =>
    go_enter Tryz.func116, Tryz.ntmps116
    go_wp2_with (first | (go_at_call 142; refine (bool_load _ true _ c1).mono ?_; rintro e w' ⟨rfl, rfl⟩))
    go_ret
    exact ⟨rfl, Kept.refl _ _, wr, H1.out, H2.out, OK.out⟩
  case false =>
    cases armed
    case false =>
      have K9 := hid (((Kept.refl [m, mb] w).set ⟨mb, i, none⟩ (.int .u8 c) (by simp)).set ⟨m, 4, none⟩ (.int .i64 (wrap64 (wr + 1))) (by simp))
      have G1 := hid ((H1.out.set_ne ⟨mb, i, none⟩ (.int .u8 c) hne).set 4 (.int .i64 (wrap64 (wr + 1))))
      have G2 := hid ((H2.out.set i (.int .u8 c)).set_ne ⟨m, 4, none⟩ (.int .i64 (wrap64 (wr + 1))) hne.symm)
      rw [U8_set] at G2
      go_enter Tryz.func116, Tryz.ntmps116
      go_wp2_with (first | (go_at_call 142; refine (bool_load _ false _ c1).mono ?_; rintro e w' ⟨rfl, rfl⟩))
      go_ret
      exact ⟨rfl, K9.out, _, G1.out, G2.out, OK.out⟩
    case true =>
      by_cases hl : left = 0
      · have el : (left == 0) = true := by simpa using hl
        have ew : (M.write ⟨b, false, true, left⟩ i c) = (⟨b, true, true, left⟩, 70) := by simp [M.write, hl]
        rw [ew] at OK ⊢
        have K9 := hid ((Kept.refl [m, mb] w).drew.set ⟨m, 1, none⟩ (.int .u32 (b32 true)) (by simp))
        have G1 := hid (H1.out.drew.set 1 (.int .u32 (b32 true)))
        have G2 := hid (H2.out.drew.set_ne ⟨m, 1, none⟩ (.int .u32 (b32 true)) hne.symm)
        clear hl ew
        go_enter Tryz.func116, Tryz.ntmps116
        go_wp2_with (first | (go_at_call 142; refine (bool_load _ false _ c1).mono ?_; rintro e w' ⟨rfl, rfl⟩) | (go_at_call 139; refine (bool_store _ _ true _ c1 z1).mono ?_; rintro e w' ⟨rfl, rfl⟩))
        go_ret
        exact ⟨rfl, K9.out, _, G1.out, G2.out, OK.out⟩
      · have el : (left == 0) = false := by simpa using hl
        have ew : (M.write ⟨b, false, true, left⟩ i c) = (⟨b.set i c, false, true, left - 1⟩, 0) := by simp [M.write, hl]
        have e9 : wrap64 (left - 1) = left - 1 := wrap64_id (by omega) (by omega)
        rw [ew] at OK ⊢
        have K9 := hid ((((Kept.refl [m, mb] w).set ⟨m, 3, none⟩ (.int .i64 (left - 1)) (by simp)).set ⟨mb, i, none⟩ (.int .u8 c) (by simp)).set ⟨m, 4, none⟩ (.int .i64 (wrap64 (wr + 1))) (by simp))
        have G1 := hid (((H1.out.set 3 (.int .i64 (left - 1))).set_ne ⟨mb, i, none⟩ (.int .u8 c) hne).set 4 (.int .i64 (wrap64 (wr + 1))))
        have G2 := hid (((H2.out.set_ne ⟨m, 3, none⟩ (.int .i64 (left - 1)) hne.symm).set i (.int .u8 c)).set_ne ⟨m, 4, none⟩ (.int .i64 (wrap64 (wr + 1))) hne.symm)
        rw [U8_set] at G2
        clear hl ew
        go_enter Tryz.func116, Tryz.ntmps116
        go_wp2_with (first | (go_at_call 142; refine (bool_load _ false _ c1).mono ?_; rintro e w' ⟨rfl, rfl⟩))
        go_ret
        exact ⟨rfl, K9.out, _, G1.out, G2.out, OK.out⟩
end MemC
namespace CellC
open Go Go.RowKit Hp Sl AtomC TM DogC MemC
def pre (x : M) (k : Nat) : Nat → Nat
  | 0 => 0
  | j + 1 => pre x k j * 256 + (x.b.getD (5 * k + 1 + j) 0).toNat
theorem MOk.byte {x : M} (h : MOk x) (i : Nat) : 0 ≤ x.b.getD i 0 ∧ x.b.getD i 0 < 256 := by
  rw [List.getD_eq_getElem?_getD]
  rcases Nat.lt_or_ge i x.b.length with hi | hi
  · rw [List.getElem?_eq_getElem hi]; exact h.by_ _ (List.getElem_mem _)
  · rw [List.getElem?_eq_none hi]; simp
theorem MOk.byte_lt {x : M} (h : MOk x) (i : Nat) : (x.b.getD i 0).toNat < 256 := by have := MOk.byte h i; omega
theorem pre_lt {x : M} (h : MOk x) (k : Nat) : ∀ j, pre x k j < 256 ^ j
  | 0 => by simp [pre]
  | j + 1 => by have := pre_lt h k j; have := MOk.byte_lt h (5 * k + 1 + j); rw [Nat.pow_succ]; unfold pre; omega
theorem pre_four {x : M} (h : MOk x) (k : Nat) : ((pre x k 4 : Nat) : Int) = x.word k := by
  have h1 := MOk.byte h (5 * k + 1)
  have h2 := MOk.byte h (5 * k + 2)
  have h3 := MOk.byte h (5 * k + 3)
  have h4 := MOk.byte h (5 * k + 4)
  unfold M.word
  simp only [pre, Nat.add_zero, Nat.add_assoc, Nat.reduceAdd]
  omega
theorem or_byte {a b : Nat} (ha : a < 2 ^ 24) (hb : b < 256) : bits .or .u32 (((a : Int) * 256) % 4294967296) (b : Int) = ((a * 256 + b : Nat) : Int) := by
  have e : ((a : Int) * 256) % 4294967296 = ((a * 256 : Nat) : Int) := by omega
  rw [e, u32_or_nat _ _ (by omega) (by omega)]
  have : a * 256 ||| b = a * 256 + b := by
    rw [Nat.mul_comm a, show (256 : Nat) = 2 ^ 8 from rfl, Nat.two_pow_add_eq_or_of_lt (by simpa using hb)]
  rw [this]
def markA (x : M) (k : Nat) : Int := if x.off then 0 else x.mark k
def wordA (x : M) (k : Nat) : Int := if x.off then 0 else x.word k
def errA (x : M) : Int := if x.off then 70 else 0
def byteA (x : M) (i : Nat) : Int := if x.off then 0 else x.b.getD i 0
theorem read_one (m mb : Nat) (x : M) (i : Nat) (hi : i < 16) (w : World) (h : IsMem w m mb x) : Calls Tryz.prog 114 #[.pointer (some ⟨m, 0, none⟩), .int .i64 (i : Nat)] w fun e w' => e = .returned (.tuple #[.int .u8 (byteA x i), .int .i64 (errA x)]) ∧ w' = w := MemC.read_call m mb x i hi w h
def preA (x : M) (k j : Nat) : Nat := if x.off then 0 else pre x k j
theorem step_word {x : M} (h : MOk x) (k j i : Nat) (hj : j < 4) (hi : i = 5 * k + 1 + j) : bits .or .u32 (((preA x k j : Nat) : Int) * 256 % 4294967296) (byteA x i % 4294967296) = ((preA x k (j + 1) : Nat) : Int) := by
  subst hi
  unfold preA byteA
  cases x.off
  · simp only [Bool.false_eq_true, if_false]
    have h1 := MOk.byte h (5 * k + 1 + j)
    have h2 := pre_lt h k j
    have h3 : (256 : Nat) ^ j ≤ 256 ^ 3 := Nat.pow_le_pow_right (by omega) (by omega)
    have e := or_byte (a := pre x k j) (b := (x.b.getD (5 * k + 1 + j) 0).toNat) (by omega) (by omega)
    rw [Int.toNat_of_nonneg h1.1] at e
    rw [Int.emod_eq_of_lt h1.1 (by omega), e]; rfl
  · simp only [if_true]
    rfl
theorem word_four {x : M} (h : MOk x) {k : Nat} : wordA x k = ((preA x k 4 : Nat) : Int) := by
  unfold wordA preA
  cases x.off
  · exact (pre_four h k).symm
  · rfl
def RdRel (W : World) (x : M) (k : Nat) (e v i : Value) (w : World) : Prop :=
  ∃ (j : Nat), w = W ∧ j ≤ 4 ∧ e = .int .i64 (errA x) ∧ v = .int .u32 (preA x k j : Nat) ∧ i = .int .i64 (j : Nat)
-- WALKS
set_option maxHeartbeats 1600000 in
theorem read_call0 (m mb : Nat) (x : M) (w : World) (h : IsMem w m mb x) : Calls Tryz.prog 93 #[.pointer (some ⟨m, 0, none⟩), .int .i64 0] w fun e w' => e = .returned (.tuple #[.int .u8 (markA x 0), .int .u32 (wordA x 0), .int .i64 (errA x)]) ∧ w' = w := by
  have R := hid (fun i (hi : i < 16) => read_one m mb x i hi w h)
  have OK := hid (show MOk x from by obtain ⟨_, _, _, h⟩ := h; exact h)
  have hr := R.out 0 (by omega)
  clear h
  go_enter Tryz.func93, Tryz.ntmps93
  go_wp2_with fail
  refine hr.mono ?_
  rintro e w1 ⟨rfl, rfl⟩
  clear hr
  go_wp2_with fail
  go_loopw [8, 9, 20] (RdRel w1 x 0) (fun _ _ i _ => 4 - (intOf i).toNat)
  case atStart => exact ⟨0, rfl, by omega, rfl, by simp [preA, pre], rfl⟩
  case round =>
    obtain ⟨j, rfl, hj, rfl, rfl, rfl⟩ := hrel
    rcases Nat.lt_or_ge j 4 with hjn | hjn
    · have hr2 := R.out (1 + j) (by omega)
      rw [show ((1 + j : Nat) : Int) = 1 + (j : Int) from by omega] at hr2
      go_wp2_with fail
      refine hr2.mono ?_
      rintro e w2 ⟨rfl, rfl⟩
      clear hr2
      have hs := step_word OK.out 0 j (1 + j) hjn (by omega)
      have ei : wrap64 ((j : Int) + 1) = ((j + 1 : Nat) : Int) := by rw [wrap64_id (by omega) (by omega)]; omega
      go_wp2_with fail
      all_goals exact ⟨⟨j + 1, rfl, by omega, rfl, rfl, by go_num⟩, by simp [intOf]; omega⟩
    · obtain rfl : j = 4 := by omega
      go_wp2_with fail
      go_ret3
      exact ⟨by rw [word_four OK.out]; rfl, rfl⟩
set_option maxHeartbeats 1600000 in
theorem read_call1 (m mb : Nat) (x : M) (w : World) (h : IsMem w m mb x) : Calls Tryz.prog 93 #[.pointer (some ⟨m, 0, none⟩), .int .i64 1] w fun e w' => e = .returned (.tuple #[.int .u8 (markA x 1), .int .u32 (wordA x 1), .int .i64 (errA x)]) ∧ w' = w := by
  have R := hid (fun i (hi : i < 16) => read_one m mb x i hi w h)
  have OK := hid (show MOk x from by obtain ⟨_, _, _, h⟩ := h; exact h)
  have hr := R.out 5 (by omega)
  clear h
  go_enter Tryz.func93, Tryz.ntmps93
  go_wp2_with fail
  refine hr.mono ?_
  rintro e w1 ⟨rfl, rfl⟩
  clear hr
  go_wp2_with fail
  go_loopw [8, 9, 20] (RdRel w1 x 1) (fun _ _ i _ => 4 - (intOf i).toNat)
  case atStart => exact ⟨0, rfl, by omega, rfl, by simp [preA, pre], rfl⟩
  case round =>
    obtain ⟨j, rfl, hj, rfl, rfl, rfl⟩ := hrel
    rcases Nat.lt_or_ge j 4 with hjn | hjn
    · have hr2 := R.out (6 + j) (by omega)
      rw [show ((6 + j : Nat) : Int) = 6 + (j : Int) from by omega] at hr2
      go_wp2_with fail
      refine hr2.mono ?_
      rintro e w2 ⟨rfl, rfl⟩
      clear hr2
      have hs := step_word OK.out 1 j (6 + j) hjn (by omega)
      have ei : wrap64 ((j : Int) + 1) = ((j + 1 : Nat) : Int) := by rw [wrap64_id (by omega) (by omega)]; omega
      go_wp2_with fail
      all_goals exact ⟨⟨j + 1, rfl, by omega, rfl, rfl, by go_num⟩, by simp [intOf]; omega⟩
    · obtain rfl : j = 4 := by omega
      go_wp2_with fail
      go_ret3
      exact ⟨by rw [word_four OK.out]; rfl, rfl⟩
end CellC
namespace CellC
open Go Go.RowKit Hp Sl AtomC TM DogC MemC
theorem steps_go {x : M} {i : Nat} {c : Int} {r : List (Nat × Int)} (h : (x.write i c).2 = 0) : x.steps ((i, c) :: r) = (x.write i c).1.steps r := by
  rw [M.steps, if_pos h]
theorem steps_stop {x : M} {i : Nat} {c : Int} {r : List (Nat × Int)} (h : ¬ (x.write i c).2 = 0) : x.steps ((i, c) :: r) = x.write i c := by
  rw [M.steps, if_neg h]
theorem steps_last {x : M} {i : Nat} {c : Int} : x.steps [(i, c)] = x.write i c := by
  by_cases h : (x.write i c).2 = 0
  · rw [steps_go h, M.steps]; exact Prod.ext rfl h.symm
  · rw [steps_stop h]
def sl (k : Nat) (u : Int) : List (Nat × Int) := [(5 * k, 0), (5 * k + 1, u / 16777216), (5 * k + 2, u / 65536 % 256), (5 * k + 3, u / 256 % 256), (5 * k + 4, u % 256), (5 * k, 165)]
def WrRel (W : World) (m mb : Nat) (r : M × Int) (k : Nat) (u : Int) (i : Value) (w : World) : Prop :=
  ∃ (j : Nat) (y : M), j ≤ 4 ∧ i = .int .i64 (j : Nat) ∧ Kept [m, mb] W w ∧ IsMem w m mb y ∧ r = y.steps ((sl k u).drop (j + 1))
set_option maxHeartbeats 3200000 in
theorem write_call0 (m mb : Nat) (x : M) (u : Int) (hu : 0 ≤ u ∧ u < 4294967296) (w : World) (h : IsMem w m mb x) : Calls Tryz.prog 115 #[.pointer (some ⟨m, 0, none⟩), .int .i64 0, .int .u32 u] w fun e w' => e = .returned (.int .i64 (x.slot 0 u).2) ∧ Kept [m, mb] w w' ∧ IsMem w' m mb (x.slot 0 u).1 := by
  obtain ⟨r, hr⟩ : ∃ r, x.slot 0 u = r := ⟨_, rfl⟩
  rw [hr]
  have hr : r = x.steps (sl 0 u) := hr.symm
  have hw := MemC.write_call m mb x 0 0 (by omega) (by omega) w h
  clear h
  go_enter Tryz.func115, Tryz.ntmps115
  by_cases h0 : (x.write 0 0).2 = 0
  case neg =>
    have hr := hid (hr.trans (steps_stop h0))
    have n0 : ((x.write 0 0).2 != 0) = true := by simpa using h0
    go_wp2_with fail
    refine hw.mono ?_
    rintro e w1 ⟨rfl, k1, h1⟩
    clear hw h0
    go_wp2_with fail
    go_ret
    exact ⟨by rw [hr.out]; rfl, k1, by rw [hr.out]; exact h1⟩
  have hr := hid (hr.trans (steps_go h0))
  have n0 : ((x.write 0 0).2 != 0) = false := by simpa using h0
  go_wp2_with fail
  refine hw.mono ?_
  rintro e w1 ⟨rfl, k1, h1⟩
  clear hw h0
  have K1 := hid k1
  have H1 := hid h1
  generalize (x.write 0 0).2 = e1 at n0
  generalize (x.write 0 0).1 = x1 at hr H1
  clear k1 h1
  go_wp2_with fail
  go_loopw [17] (WrRel w1 m mb r 0 u) (fun i _ => 4 - (intOf i).toNat)
  case atStart => exact ⟨0, x1, by omega, rfl, Kept.refl _ _, H1.out, hr.out⟩
  case round =>
    clear H1 hr
    obtain ⟨j, y, hj, rfl, k2, h2, hr⟩ := hrel
    have K2 := hid (K1.out.trans k2)
    have K2' := hid k2
    clear k2
    rcases Nat.lt_or_ge j 4 with hjn | hjn
    · obtain rfl | rfl | rfl | rfl : j = 0 ∨ j = 1 ∨ j = 2 ∨ j = 3 := by omega
      · have hw := MemC.write_call m mb y 1 (u / 16777216) (by omega) (by omega) wr h2
        by_cases h0 : (y.write 1 (u / 16777216)).2 = 0
        case neg =>
          have hr := hid (hr.trans (steps_stop h0))
          have n0 : ((y.write 1 (u / 16777216)).2 != 0) = true := by simpa using h0
          clear h2
          go_wp2_with fail
          refine hw.mono ?_
          rintro e w3 ⟨rfl, k3, h3⟩
          clear hw h0
          go_wp2_with fail
          go_ret
          exact ⟨by rw [hr.out]; rfl, K2.out.trans k3, by rw [hr.out]; exact h3⟩
        have hr := hid (hr.trans (steps_go h0))
        have n0 : ((y.write 1 (u / 16777216)).2 != 0) = false := by simpa using h0
        clear h2
        go_wp2_with fail
        refine hw.mono ?_
        rintro e w3 ⟨rfl, k3, h3⟩
        clear hw h0
        go_wp2_with fail
        exact ⟨⟨1, _, by omega, rfl, K2'.out.trans k3, h3, hr.out⟩, by simp [intOf]⟩
      · have hw := MemC.write_call m mb y 2 (u / 65536 % 256) (by omega) (by omega) wr h2
        by_cases h0 : (y.write 2 (u / 65536 % 256)).2 = 0
        case neg =>
          have hr := hid (hr.trans (steps_stop h0))
          have n0 : ((y.write 2 (u / 65536 % 256)).2 != 0) = true := by simpa using h0
          clear h2
          go_wp2_with fail
          refine hw.mono ?_
          rintro e w3 ⟨rfl, k3, h3⟩
          clear hw h0
          go_wp2_with fail
          go_ret
          exact ⟨by rw [hr.out]; rfl, K2.out.trans k3, by rw [hr.out]; exact h3⟩
        have hr := hid (hr.trans (steps_go h0))
        have n0 : ((y.write 2 (u / 65536 % 256)).2 != 0) = false := by simpa using h0
        clear h2
        go_wp2_with fail
        refine hw.mono ?_
        rintro e w3 ⟨rfl, k3, h3⟩
        clear hw h0
        go_wp2_with fail
        exact ⟨⟨2, _, by omega, rfl, K2'.out.trans k3, h3, hr.out⟩, by simp [intOf]⟩
      · have hw := MemC.write_call m mb y 3 (u / 256 % 256) (by omega) (by omega) wr h2
        by_cases h0 : (y.write 3 (u / 256 % 256)).2 = 0
        case neg =>
          have hr := hid (hr.trans (steps_stop h0))
          have n0 : ((y.write 3 (u / 256 % 256)).2 != 0) = true := by simpa using h0
          clear h2
          go_wp2_with fail
          refine hw.mono ?_
          rintro e w3 ⟨rfl, k3, h3⟩
          clear hw h0
          go_wp2_with fail
          go_ret
          exact ⟨by rw [hr.out]; rfl, K2.out.trans k3, by rw [hr.out]; exact h3⟩
        have hr := hid (hr.trans (steps_go h0))
        have n0 : ((y.write 3 (u / 256 % 256)).2 != 0) = false := by simpa using h0
        clear h2
        go_wp2_with fail
        refine hw.mono ?_
        rintro e w3 ⟨rfl, k3, h3⟩
        clear hw h0
        go_wp2_with fail
        exact ⟨⟨3, _, by omega, rfl, K2'.out.trans k3, h3, hr.out⟩, by simp [intOf]⟩
      · have hw := MemC.write_call m mb y 4 (u % 256) (by omega) (by omega) wr h2
        by_cases h0 : (y.write 4 (u % 256)).2 = 0
        case neg =>
          have hr := hid (hr.trans (steps_stop h0))
          have n0 : ((y.write 4 (u % 256)).2 != 0) = true := by simpa using h0
          clear h2
          go_wp2_with fail
          refine hw.mono ?_
          rintro e w3 ⟨rfl, k3, h3⟩
          clear hw h0
          go_wp2_with fail
          go_ret
          exact ⟨by rw [hr.out]; rfl, K2.out.trans k3, by rw [hr.out]; exact h3⟩
        have hr := hid (hr.trans (steps_go h0))
        have n0 : ((y.write 4 (u % 256)).2 != 0) = false := by simpa using h0
        clear h2
        go_wp2_with fail
        refine hw.mono ?_
        rintro e w3 ⟨rfl, k3, h3⟩
        clear hw h0
        go_wp2_with fail
        exact ⟨⟨4, _, by omega, rfl, K2'.out.trans k3, h3, hr.out⟩, by simp [intOf]⟩
    · obtain rfl : j = 4 := by omega
      have hw := MemC.write_call m mb y 0 165 (by omega) (by omega) wr h2
      have hr := hid (hr.trans steps_last)
      clear h2
      go_wp2_with fail
      refine hw.mono ?_
      rintro e w3 ⟨rfl, k3, h3⟩
      clear hw
      go_wp2_with fail
      go_ret
      exact ⟨by rw [hr.out]; rfl, K2.out.trans k3, by rw [hr.out]; exact h3⟩
set_option maxHeartbeats 3200000 in
theorem write_call1 (m mb : Nat) (x : M) (u : Int) (hu : 0 ≤ u ∧ u < 4294967296) (w : World) (h : IsMem w m mb x) : Calls Tryz.prog 115 #[.pointer (some ⟨m, 0, none⟩), .int .i64 1, .int .u32 u] w fun e w' => e = .returned (.int .i64 (x.slot 1 u).2) ∧ Kept [m, mb] w w' ∧ IsMem w' m mb (x.slot 1 u).1 := by
  obtain ⟨r, hr⟩ : ∃ r, x.slot 1 u = r := ⟨_, rfl⟩
  rw [hr]
  have hr : r = x.steps (sl 1 u) := hr.symm
  have hw := MemC.write_call m mb x 5 0 (by omega) (by omega) w h
  clear h
  go_enter Tryz.func115, Tryz.ntmps115
  by_cases h0 : (x.write 5 0).2 = 0
  case neg =>
    have hr := hid (hr.trans (steps_stop h0))
    have n0 : ((x.write 5 0).2 != 0) = true := by simpa using h0
    go_wp2_with fail
    refine hw.mono ?_
    rintro e w1 ⟨rfl, k1, h1⟩
    clear hw h0
    go_wp2_with fail
    go_ret
    exact ⟨by rw [hr.out]; rfl, k1, by rw [hr.out]; exact h1⟩
  have hr := hid (hr.trans (steps_go h0))
  have n0 : ((x.write 5 0).2 != 0) = false := by simpa using h0
  go_wp2_with fail
  refine hw.mono ?_
  rintro e w1 ⟨rfl, k1, h1⟩
  clear hw h0
  have K1 := hid k1
  have H1 := hid h1
  generalize (x.write 5 0).2 = e1 at n0
  generalize (x.write 5 0).1 = x1 at hr H1
  clear k1 h1
  go_wp2_with fail
  go_loopw [17] (WrRel w1 m mb r 1 u) (fun i _ => 4 - (intOf i).toNat)
  case atStart => exact ⟨0, x1, by omega, rfl, Kept.refl _ _, H1.out, hr.out⟩
  case round =>
    clear H1 hr
    obtain ⟨j, y, hj, rfl, k2, h2, hr⟩ := hrel
    have K2 := hid (K1.out.trans k2)
    have K2' := hid k2
    clear k2
    rcases Nat.lt_or_ge j 4 with hjn | hjn
    · obtain rfl | rfl | rfl | rfl : j = 0 ∨ j = 1 ∨ j = 2 ∨ j = 3 := by omega
      · have hw := MemC.write_call m mb y 6 (u / 16777216) (by omega) (by omega) wr h2
        by_cases h0 : (y.write 6 (u / 16777216)).2 = 0
        case neg =>
          have hr := hid (hr.trans (steps_stop h0))
          have n0 : ((y.write 6 (u / 16777216)).2 != 0) = true := by simpa using h0
          clear h2
          go_wp2_with fail
          refine hw.mono ?_
          rintro e w3 ⟨rfl, k3, h3⟩
          clear hw h0
          go_wp2_with fail
          go_ret
          exact ⟨by rw [hr.out]; rfl, K2.out.trans k3, by rw [hr.out]; exact h3⟩
        have hr := hid (hr.trans (steps_go h0))
        have n0 : ((y.write 6 (u / 16777216)).2 != 0) = false := by simpa using h0
        clear h2
        go_wp2_with fail
        refine hw.mono ?_
        rintro e w3 ⟨rfl, k3, h3⟩
        clear hw h0
        go_wp2_with fail
        exact ⟨⟨1, _, by omega, rfl, K2'.out.trans k3, h3, hr.out⟩, by simp [intOf]⟩
      · have hw := MemC.write_call m mb y 7 (u / 65536 % 256) (by omega) (by omega) wr h2
        by_cases h0 : (y.write 7 (u / 65536 % 256)).2 = 0
        case neg =>
          have hr := hid (hr.trans (steps_stop h0))
          have n0 : ((y.write 7 (u / 65536 % 256)).2 != 0) = true := by simpa using h0
          clear h2
          go_wp2_with fail
          refine hw.mono ?_
          rintro e w3 ⟨rfl, k3, h3⟩
          clear hw h0
          go_wp2_with fail
          go_ret
          exact ⟨by rw [hr.out]; rfl, K2.out.trans k3, by rw [hr.out]; exact h3⟩
        have hr := hid (hr.trans (steps_go h0))
        have n0 : ((y.write 7 (u / 65536 % 256)).2 != 0) = false := by simpa using h0
        clear h2
        go_wp2_with fail
        refine hw.mono ?_
        rintro e w3 ⟨rfl, k3, h3⟩
        clear hw h0
        go_wp2_with fail
        exact ⟨⟨2, _, by omega, rfl, K2'.out.trans k3, h3, hr.out⟩, by simp [intOf]⟩
      · have hw := MemC.write_call m mb y 8 (u / 256 % 256) (by omega) (by omega) wr h2
        by_cases h0 : (y.write 8 (u / 256 % 256)).2 = 0
        case neg =>
          have hr := hid (hr.trans (steps_stop h0))
          have n0 : ((y.write 8 (u / 256 % 256)).2 != 0) = true := by simpa using h0
          clear h2
          go_wp2_with fail
          refine hw.mono ?_
          rintro e w3 ⟨rfl, k3, h3⟩
          clear hw h0
          go_wp2_with fail
          go_ret
          exact ⟨by rw [hr.out]; rfl, K2.out.trans k3, by rw [hr.out]; exact h3⟩
        have hr := hid (hr.trans (steps_go h0))
        have n0 : ((y.write 8 (u / 256 % 256)).2 != 0) = false := by simpa using h0
        clear h2
        go_wp2_with fail
        refine hw.mono ?_
        rintro e w3 ⟨rfl, k3, h3⟩
        clear hw h0
        go_wp2_with fail
        exact ⟨⟨3, _, by omega, rfl, K2'.out.trans k3, h3, hr.out⟩, by simp [intOf]⟩
      · have hw := MemC.write_call m mb y 9 (u % 256) (by omega) (by omega) wr h2
        by_cases h0 : (y.write 9 (u % 256)).2 = 0
        case neg =>
          have hr := hid (hr.trans (steps_stop h0))
          have n0 : ((y.write 9 (u % 256)).2 != 0) = true := by simpa using h0
          clear h2
          go_wp2_with fail
          refine hw.mono ?_
          rintro e w3 ⟨rfl, k3, h3⟩
          clear hw h0
          go_wp2_with fail
          go_ret
          exact ⟨by rw [hr.out]; rfl, K2.out.trans k3, by rw [hr.out]; exact h3⟩
        have hr := hid (hr.trans (steps_go h0))
        have n0 : ((y.write 9 (u % 256)).2 != 0) = false := by simpa using h0
        clear h2
        go_wp2_with fail
        refine hw.mono ?_
        rintro e w3 ⟨rfl, k3, h3⟩
        clear hw h0
        go_wp2_with fail
        exact ⟨⟨4, _, by omega, rfl, K2'.out.trans k3, h3, hr.out⟩, by simp [intOf]⟩
    · obtain rfl : j = 4 := by omega
      have hw := MemC.write_call m mb y 5 165 (by omega) (by omega) wr h2
      have hr := hid (hr.trans steps_last)
      clear h2
      go_wp2_with fail
      refine hw.mono ?_
      rintro e w3 ⟨rfl, k3, h3⟩
      clear hw
      go_wp2_with fail
      go_ret
      exact ⟨by rw [hr.out]; rfl, K2.out.trans k3, by rw [hr.out]; exact h3⟩
end CellC
namespace CellC
open Go Go.RowKit Hp Sl AtomC TM DogC MemC
theorem MOk.word {x : M} (h : MOk x) (k : Nat) : 0 ≤ x.word k ∧ x.word k < 4294967296 := by
  have h1 := MOk.byte h (5 * k + 1)
  have h2 := MOk.byte h (5 * k + 2)
  have h3 := MOk.byte h (5 * k + 3)
  have h4 := MOk.byte h (5 * k + 4)
  unfold M.word
  omega
def fixes (x : M) : List (Nat × Int) := (if x.mark 0 ≠ 0 then [(0, 0)] else []) ++ (if x.mark 1 ≠ 0 then [(5, 0)] else [])
theorem open_bb {x : M} (h : x.off = false) (h0 : x.mark 0 = 165) (h1 : x.mark 1 = 165) : x.open = (x, max (x.word 0) (x.word 1), 0) := by simp [M.open, h, h0, h1]
theorem open_bn {x : M} (h : x.off = false) (h0 : x.mark 0 = 165) (h1 : x.mark 1 ≠ 165) : x.open = ((x.slot 1 (x.word 0)).1, x.word 0, (x.slot 1 (x.word 0)).2) := by simp [M.open, h, h0, h1]
theorem open_nb {x : M} (h : x.off = false) (h0 : x.mark 0 ≠ 165) (h1 : x.mark 1 = 165) : x.open = ((x.slot 0 (x.word 1)).1, x.word 1, (x.slot 0 (x.word 1)).2) := by simp [M.open, h, h0, h1]
theorem open_nn {x : M} (h : x.off = false) (h0 : x.mark 0 ≠ 165) (h1 : x.mark 1 ≠ 165) : x.open = ((x.steps (fixes x)).1, 0, (x.steps (fixes x)).2) := by unfold fixes; simp [M.open, h, h0, h1]
def FixRel (W : World) (m mb A : Nat) (mA : List Value) (r : M × Int) (x : M) (i : Value) (w : World) : Prop :=
  ∃ (j : Nat) (y : M), j ≤ 2 ∧ i = .int .i64 (j : Nat) ∧ Kept [m, mb] W w ∧ IsMem w m mb y ∧ Has w A 185 mA ∧ r = y.steps ((if j < 1 ∧ x.mark 0 ≠ 0 then [(0, 0)] else []) ++ (if j < 2 ∧ x.mark 1 ≠ 0 then [(5, 0)] else []))
theorem beq165 {a : Int} (h : a = 165) : (a == 165) = true := by simp [h]
theorem bne165 {a : Int} (h : a ≠ 165) : (a == 165) = false := by simp [h]
set_option maxRecDepth 100000 in
set_option maxHeartbeats 3200000 in
theorem repair_call (m mb : Nat) (x : M) (w : World) (h : IsMem w m mb x) (hoff : x.off = false) : Calls Tryz.prog 94 #[.pointer (some ⟨m, 0, none⟩), .agg #[.int .u8 (x.mark 0), .int .u8 (x.mark 1)], .agg #[.int .u32 (x.word 0), .int .u32 (x.word 1)]] w fun e w' => e = .returned (.tuple #[.int .u32 x.open.2.1, .int .i64 x.open.2.2]) ∧ Kept [m, mb] w w' ∧ IsMem w' m mb x.open.1 := by
  have OK := hid (show MOk x from by obtain ⟨_, _, _, h⟩ := h; exact h)
  obtain ⟨r, hr⟩ : ∃ r, x.open = r := ⟨_, rfl⟩
  rw [hr]
  have hlm := h.lt
  have hne := h.ne
  have kA := (((Kept.refl [m, mb] w).alloc (.cells #[.int .u8 (x.mark 0), .int .u8 (x.mark 1)] 185)).alloc (.cells #[.int .u32 (x.word 0), .int .u32 (x.word 1)] 186))
  have hA := (Has.new w 185 [.int .u8 (x.mark 0), .int .u8 (x.mark 1)]).alloc (.cells #[.int .u32 (x.word 0), .int .u32 (x.word 1)] 186)
  have hB := Has.new (w.alloc (.cells #[.int .u8 (x.mark 0), .int .u8 (x.mark 1)] 185)) 186 [.int .u32 (x.word 0), .int .u32 (x.word 1)]
  rw [World.size_alloc] at hB
  have hM := (h.kept ((Kept.refl [] w).alloc (.cells #[.int .u8 (x.mark 0), .int .u8 (x.mark 1)] 185)) (by simp) (by simp)).kept ((Kept.refl [] _).alloc (.cells #[.int .u32 (x.word 0), .int .u32 (x.word 1)] 186)) (by simp) (by simp)
  have hsz : ((w.alloc (.cells #[.int .u8 (x.mark 0), .int .u8 (x.mark 1)] 185)).alloc (.cells #[.int .u32 (x.word 0), .int .u32 (x.word 1)] 186)).heap.size = w.heap.size + 2 := by simp
  have KA := hid kA
  have HA := hid (show Has ((w.alloc (.cells #[.int .u8 (x.mark 0), .int .u8 (x.mark 1)] 185)).alloc (.cells #[.int .u32 (x.word 0), .int .u32 (x.word 1)] 186)) w.heap.size 185 [.int .u8 (x.mark 0), .int .u8 (x.mark 1)] from hA)
  have HB := hid (show Has ((w.alloc (.cells #[.int .u8 (x.mark 0), .int .u8 (x.mark 1)] 185)).alloc (.cells #[.int .u32 (x.word 0), .int .u32 (x.word 1)] 186)) (w.heap.size + 1) 186 [.int .u32 (x.word 0), .int .u32 (x.word 1)] from hB)
  have HM := hid hM
  have a0 := HA.out.cell 0 (v := .int .u8 (x.mark 0)) rfl
  have a1 := HA.out.cell 1 (v := .int .u8 (x.mark 1)) rfl
  have b0 := HB.out.cell 0 (v := .int .u32 (x.word 0)) rfl
  have b1 := HB.out.cell 1 (v := .int .u32 (x.word 1)) rfl
  clear h kA hA hB hM
  go_enter Tryz.func94, Tryz.ntmps94
  go_upto_region 1 with (fail)
  generalize ((w.alloc (.cells #[.int .u8 (x.mark 0), .int .u8 (x.mark 1)] 185)).alloc (.cells #[.int .u32 (x.word 0), .int .u32 (x.word 1)] 186)) = w0 at *
  generalize hAB : w.heap.size = A at *
  have g0 := fun W (k : Kept [m, mb] w0 W) => (k.has HB.out (by simp; omega)).cell 0 (v := .int .u32 (x.word 0)) rfl
  have g1 := fun W (k : Kept [m, mb] w0 W) => (k.has HB.out (by simp; omega)).cell 1 (v := .int .u32 (x.word 1)) rfl
  have G0 := hid g0
  have G1 := hid g1
  clear g0 g1
  by_cases h0 : x.mark 0 = 165
  · have e0 := beq165 h0
    by_cases h1 : x.mark 1 = 165
    · have e1 := beq165 h1
      have hr := hid (hr.symm.trans (open_bb hoff h0 h1))
      clear h0 h1
      go_wp2_with fail
      all_goals (
        go_ret2
        refine ⟨?_, KA.out.alloc _, by rw [hr.out]; exact HM.out.kept ((Kept.refl [] _).alloc _) (by simp) (by simp)⟩
        rw [hr.out])
      · have e : max (x.word 0) (x.word 1) = x.word 1 := by omega
        simp only [e]; rfl
      · have e : max (x.word 0) (x.word 1) = x.word 0 := by omega
        simp only [e]; rfl
    · have e1 := bne165 h1
      have hr := hid (hr.symm.trans (open_bn hoff h0 h1))
      have WC := hid (fun W h => write_call1 m mb x (x.word 0) (MOk.word OK.out 0) W h)
      clear h0 h1
      go_wp2_with fail
      have k1 : Kept [m, mb] w0 (w0.alloc (.cells #[.bool true, .bool false] 215)) := (Kept.refl _ _).alloc _
      have c0 := G0.out _ (k1.drew)
      go_region_held3 (fun w' => w'.cell? ⟨A + 1, 0, none⟩ = some (.int .u32 (x.word 0))) (first | assumption | go_keep)
        (first
          | (go_at_call 115; refine (WC.out _ (HM.out.kept (((Kept.refl [] w0).alloc (.cells #[.bool true, .bool false] 215)).drewN 1) (by simp) (by simp))).mono ?_; rintro e w5 ⟨rfl, k5, h5⟩; have q5 := G0.out _ ((k1.drewN 1).trans k5)))
      go_wp2_with fail
      go_ret2
      exact ⟨by rw [hr.out]; rfl, (KA.out.trans (k1.drewN 1)).trans k5, by rw [hr.out]; exact h5⟩
  · have e0 := bne165 h0
    by_cases h1 : x.mark 1 = 165
    · have e1 := beq165 h1
      have hr := hid (hr.symm.trans (open_nb hoff h0 h1))
      have WC := hid (fun W h => write_call0 m mb x (x.word 1) (MOk.word OK.out 1) W h)
      clear h0 h1
      go_wp2_with fail
      have k1 : Kept [m, mb] w0 (w0.alloc (.cells #[.bool false, .bool true] 215)) := (Kept.refl _ _).alloc _
      have c0 := G1.out _ (k1.drew)
      go_region_held3 (fun w' => w'.cell? ⟨A + 1, 1, none⟩ = some (.int .u32 (x.word 1))) (first | assumption | go_keep)
        (first
          | (go_at_call 115; refine (WC.out _ (HM.out.kept (((Kept.refl [] w0).alloc (.cells #[.bool false, .bool true] 215)).drewN 1) (by simp) (by simp))).mono ?_; rintro e w5 ⟨rfl, k5, h5⟩; have q5 := G1.out _ ((k1.drewN 1).trans k5)))
      go_wp2_with fail
      go_ret2
      exact ⟨by rw [hr.out]; rfl, (KA.out.trans (k1.drewN 1)).trans k5, by rw [hr.out]; exact h5⟩
    · have e1 := bne165 h1
      have hr := hid (hr.symm.trans (open_nn hoff h0 h1))
      obtain ⟨s, hs⟩ : ∃ s, x.steps (fixes x) = s := ⟨_, rfl⟩
      rw [hs] at hr
      clear h0 h1
      go_wp2_with fail
      have k1 : Kept [m, mb] w0 (w0.alloc (.cells #[.bool false, .bool false] 215)) := (Kept.refl _ _).alloc _
      have HM1 := hid (HM.out.kept ((Kept.refl [] w0).alloc (.cells #[.bool false, .bool false] 215)) (by simp) (by simp))
      have HA1 := hid (k1.has HA.out (by simp; omega))
      have K1 := hid (KA.out.trans k1)
      have hAm : A ≠ m ∧ A ≠ mb := by omega
      clear k1 G0 G1 a0 a1 b0 b1 HA HB HM KA e0 e1
      generalize w0.alloc (.cells #[.bool false, .bool false] 215) = w1 at *
      have hs := hid (show s = x.steps ((if 0 < 1 ∧ x.mark 0 ≠ 0 then [(0, 0)] else []) ++ (if 0 < 2 ∧ x.mark 1 ≠ 0 then [(5, 0)] else [])) by rw [← hs]; unfold fixes; simp)
      go_loopw [48] (FixRel w1 m mb A [.int .u8 (x.mark 0), .int .u8 (x.mark 1)] s x) (fun i _ => 2 - (intOf i).toNat)
      case atStart => exact ⟨0, x, by omega, rfl, Kept.refl _ _, HM1.out, HA1.out, hs.out⟩
      case round =>
        clear HM1 HA1 hs
        obtain ⟨j, y, hj, rfl, k2, h2, hA2, hs⟩ := hrel
        have K2 := hid (K1.out.trans k2)
        have K2' := hid k2
        have HA2 := hid hA2
        have H2 := hid h2
        have a0 := hA2.cell 0 (v := .int .u8 (x.mark 0)) rfl
        have a1 := hA2.cell 1 (v := .int .u8 (x.mark 1)) rfl
        clear k2 hA2 h2
        obtain rfl | rfl | rfl : j = 0 ∨ j = 1 ∨ j = 2 := by omega
        · by_cases hz : x.mark 0 = 0
          · have e2 : (x.mark 0 != 0) = false := by simp [hz]
            have hs := hid (show s = y.steps ((if 1 < 1 ∧ x.mark 0 ≠ 0 then [(0, 0)] else []) ++ (if 1 < 2 ∧ x.mark 1 ≠ 0 then [(5, 0)] else [])) by rw [hs]; simp [hz])
            clear hz
            go_wp2_with fail
            exact ⟨⟨1, y, by omega, rfl, K2'.out, H2.out, HA2.out, hs.out⟩, by simp [intOf]⟩
          · have e2 : (x.mark 0 != 0) = true := by simp [hz]
            have hw := MemC.write_call m mb y 0 0 (by omega) (by omega) wr H2.out
            have hs : s = y.steps ((0, 0) :: (if 1 < 2 ∧ x.mark 1 ≠ 0 then [(5, 0)] else [])) := by rw [hs]; simp [hz]
            by_cases hy : (y.write 0 0).2 = 0
            · have n0 : ((y.write 0 0).2 != 0) = false := by simpa using hy
              have hs := hid (hs.trans (steps_go hy))
              clear hz hy
              go_wp2_with fail
              refine hw.mono ?_
              rintro e w3 ⟨rfl, k3, h3⟩
              clear hw
              go_wp2_with fail
              exact ⟨⟨1, _, by omega, rfl, K2'.out.trans k3, h3, k3.has HA2.out (by simp; exact hAm), by rw [hs.out]; simp⟩, by simp [intOf]⟩
            · have n0 : ((y.write 0 0).2 != 0) = true := by simpa using hy
              have hs := hid (hs.trans (steps_stop hy))
              clear hz hy
              go_wp2_with fail
              refine hw.mono ?_
              rintro e w3 ⟨rfl, k3, h3⟩
              clear hw
              go_wp2_with fail
              go_ret2
              exact ⟨by rw [hr.out, hs.out]; rfl, K2.out.trans k3, by rw [hr.out, hs.out]; exact h3⟩
        · by_cases hz : x.mark 1 = 0
          · have e2 : (x.mark 1 != 0) = false := by simp [hz]
            have hs := hid (show s = y.steps ((if 2 < 1 ∧ x.mark 0 ≠ 0 then [(0, 0)] else []) ++ (if 2 < 2 ∧ x.mark 1 ≠ 0 then [(5, 0)] else [])) by rw [hs]; simp [hz])
            clear hz
            go_wp2_with fail
            exact ⟨⟨2, y, by omega, rfl, K2'.out, H2.out, HA2.out, hs.out⟩, by simp [intOf]⟩
          · have e2 : (x.mark 1 != 0) = true := by simp [hz]
            have hw := MemC.write_call m mb y 5 0 (by omega) (by omega) wr H2.out
            have hs : s = y.steps ((5, 0) :: []) := by rw [hs]; simp [hz]
            by_cases hy : (y.write 5 0).2 = 0
            · have n0 : ((y.write 5 0).2 != 0) = false := by simpa using hy
              have hs := hid (hs.trans (steps_go hy))
              clear hz hy
              go_wp2_with fail
              refine hw.mono ?_
              rintro e w3 ⟨rfl, k3, h3⟩
              clear hw
              go_wp2_with fail
              exact ⟨⟨2, _, by omega, rfl, K2'.out.trans k3, h3, k3.has HA2.out (by simp; exact hAm), by rw [hs.out]; simp⟩, by simp [intOf]⟩
            · have n0 : ((y.write 5 0).2 != 0) = true := by simpa using hy
              have hs := hid (hs.trans (steps_stop hy))
              clear hz hy
              go_wp2_with fail
              refine hw.mono ?_
              rintro e w3 ⟨rfl, k3, h3⟩
              clear hw
              go_wp2_with fail
              go_ret2
              exact ⟨by rw [hr.out, hs.out]; rfl, K2.out.trans k3, by rw [hr.out, hs.out]; exact h3⟩
        · have hs : s = (y, 0) := by rw [hs]; rfl
          have hs := hid hs
          go_wp2_with fail
          go_ret2
          exact ⟨by rw [hr.out, hs.out]; rfl, K2.out, by rw [hr.out, hs.out]; exact H2.out⟩
end CellC
namespace CellC
open Go Go.RowKit Hp Sl AtomC TM DogC MemC
def IsCell (w : World) (c m : Nat) (y : C) : Prop := Has w c 192 [.pointer (some ⟨m, 0, none⟩), .int .u32 y.max, .int .u32 y.value, .bool y.dead]
theorem errA_on {x : M} (h : x.off = false) : errA x = 0 := by simp [errA, h]
theorem errA_off {x : M} (h : x.off = true) : errA x = 70 := by simp [errA, h]
theorem markA_on {x : M} (h : x.off = false) (k : Nat) : markA x k = x.mark k := by simp [markA, h]
theorem wordA_on {x : M} (h : x.off = false) (k : Nat) : wordA x k = x.word k := by simp [wordA, h]
def arM (x : M) : Nat → List Value
  | 0 => [.int .u8 0, .int .u8 0]
  | 1 => [.int .u8 (x.mark 0), .int .u8 0]
  | _ => [.int .u8 (x.mark 0), .int .u8 (x.mark 1)]
def arW (x : M) : Nat → List Value
  | 0 => [.int .u32 0, .int .u32 0]
  | 1 => [.int .u32 (x.word 0), .int .u32 0]
  | _ => [.int .u32 (x.word 0), .int .u32 (x.word 1)]
def ArRel (W : World) (A B : Nat) (x : M) (i : Value) (w : World) : Prop :=
  ∃ (j : Nat), j ≤ 2 ∧ i = .int .i64 (j : Nat) ∧ Kept [A, B] W w ∧ Has w A 185 (arM x j) ∧ Has w B 186 (arW x j)
def Opened (w w' : World) (e : Ending) (m mb : Nat) (x : M) (mx : Int) : Prop :=
  (x.open.2.2 = 0 ∧ ∃ c, w.heap.size ≤ c ∧ e = .returned (.tuple #[.pointer (some ⟨c, 0, none⟩), .int .i64 0]) ∧ IsCell w' c m ⟨mx, x.open.2.1, false⟩) ∨ (x.open.2.2 ≠ 0 ∧ e = .returned (.tuple #[.pointer none, .int .i64 x.open.2.2]))
set_option maxRecDepth 100000 in
set_option maxHeartbeats 3200000 in
theorem open_call (m mb : Nat) (x : M) (mx : Int) (hmx : mx ≠ 0) (w : World) (h : IsMem w m mb x) : Calls Tryz.prog 61 #[.pointer (some ⟨m, 0, none⟩), .int .u32 mx] w fun e w' => Kept [m, mb] w w' ∧ IsMem w' m mb x.open.1 ∧ Opened w w' e m mb x mx := by
  have e1 : (mx == 0) = false := by simpa using hmx
  have SC := hid (size_call m mb x w h)
  have hlm := h.lt
  have hAz := (Has.new w 185 (arM x 0)).alloc (.cells (arW x 0).toArray 186)
  have hBz := Has.new (w.alloc (.cells (arM x 0).toArray 185)) 186 (arW x 0)
  rw [World.size_alloc] at hBz
  have kA := ((Kept.refl [m, mb] w).alloc (.cells (arM x 0).toArray 185)).alloc (.cells (arW x 0).toArray 186)
  have hM := (h.kept ((Kept.refl [] w).alloc (.cells (arM x 0).toArray 185)) (by simp) (by simp)).kept ((Kept.refl [] _).alloc (.cells (arW x 0).toArray 186)) (by simp) (by simp)
  have KA := hid kA
  have HA := hid hAz
  have HB := hid hBz
  have HM := hid hM
  clear hmx hAz hBz kA hM
  cases hoff : x.off
  case true =>
    have ee : errA x = 70 := errA_off hoff
    have eo : x.open = (x, 0, 70) := by simp [M.open, hoff]
    clear h hoff
    go_enter Tryz.func61, Tryz.ntmps61
    go_wp2_with fail
    refine SC.out.mono ?_
    rintro e w1 ⟨rfl, rfl⟩
    go_wp2_with fail
    have hW : ((w1.alloc (.cells (arM x 0).toArray 185)).alloc (.cells (arW x 0).toArray 186)).heap.size = w1.heap.size + 2 := by simp
    change Code.wp _ _ _ _ ((w1.alloc (.cells (arM x 0).toArray 185)).alloc (.cells (arW x 0).toArray 186))
    generalize ((w1.alloc (.cells (arM x 0).toArray 185)).alloc (.cells (arW x 0).toArray 186)) = w0 at *
    refine wp_loop_once ?_
    go_wp2_with fail
    refine (read_call0 m mb x _ HM.out).mono ?_
    rintro e w2 ⟨rfl, rfl⟩
    go_wp2_with fail
    go_ret2
    exact ⟨KA.out, by rw [eo]; exact HM.out, .inr ⟨by rw [eo]; simp, by rw [eo]; rfl⟩⟩
  case false =>
    have ee : errA x = 0 := errA_on hoff
    have em0 := markA_on hoff 0
    have em1 := markA_on hoff 1
    have ew0 := wordA_on hoff 0
    have ew1 := wordA_on hoff 1
    have HO := hid hoff
    clear h hoff
    go_enter Tryz.func61, Tryz.ntmps61
    go_wp2_with fail
    refine SC.out.mono ?_
    rintro e w1 ⟨rfl, rfl⟩
    go_wp2_with fail
    have hW : ((w1.alloc (.cells (arM x 0).toArray 185)).alloc (.cells (arW x 0).toArray 186)).heap.size = w1.heap.size + 2 := by simp
    change Code.wp _ _ _ _ ((w1.alloc (.cells (arM x 0).toArray 185)).alloc (.cells (arW x 0).toArray 186))
    generalize ((w1.alloc (.cells (arM x 0).toArray 185)).alloc (.cells (arW x 0).toArray 186)) = w0 at *
    generalize hA1 : w1.heap.size = A at *
    go_loopw [25] (ArRel w0 A (A + 1) x) (fun i _ => 2 - (intOf i).toNat)
    case atStart => exact ⟨0, by omega, rfl, Kept.refl _ _, HA.out, HB.out⟩
    case round =>
      clear HA HB
      obtain ⟨j, hj, rfl, k2, hA, hB⟩ := hrel
      have hM := HM.out.kept k2 (by simp; omega) (by simp; omega)
      have K2 := hid k2
      have H2 := hid hM
      have HA := hid hA
      have HB := hid hB
      clear k2 hM hA hB
      obtain rfl | rfl | rfl : j = 0 ∨ j = 1 ∨ j = 2 := by omega
      · have a0 := HA.out.cell 0 (v := .int .u8 0) rfl
        have b0 := HB.out.cell 0 (v := .int .u32 0) rfl
        have z0 := HA.out.free 0
        have y0 := HB.out.free 0
        go_wp2_with fail
        refine (read_call0 m mb x _ H2.out).mono ?_
        rintro e w2 ⟨rfl, rfl⟩
        go_wp2_with fail
        exact ⟨⟨1, by omega, rfl, (K2.out.set ⟨A, 0, none⟩ _ (by simp)).set ⟨A + 1, 0, none⟩ _ (by simp), (HA.out.set 0 (.int .u8 (x.mark 0))).set_ne ⟨A + 1, 0, none⟩ _ (by simp), (HB.out.set_ne ⟨A, 0, none⟩ _ (by simp)).set 0 (.int .u32 (x.word 0))⟩, by simp [intOf]⟩
      · have a0 := HA.out.cell 1 (v := .int .u8 0) rfl
        have b0 := HB.out.cell 1 (v := .int .u32 0) rfl
        have z0 := HA.out.free 1
        have y0 := HB.out.free 1
        go_wp2_with fail
        refine (read_call1 m mb x _ H2.out).mono ?_
        rintro e w2 ⟨rfl, rfl⟩
        go_wp2_with fail
        exact ⟨⟨2, by omega, rfl, (K2.out.set ⟨A, 1, none⟩ _ (by simp)).set ⟨A + 1, 1, none⟩ _ (by simp), (HA.out.set 1 (.int .u8 (x.mark 1))).set_ne ⟨A + 1, 1, none⟩ _ (by simp), (HB.out.set_ne ⟨A, 1, none⟩ _ (by simp)).set 1 (.int .u32 (x.word 1))⟩, by simp [intOf]⟩
      · have a0 := HA.out.cell 0 (v := .int .u8 (x.mark 0)) rfl
        have a1 := HA.out.cell 1 (v := .int .u8 (x.mark 1)) rfl
        have b0 := HB.out.cell 0 (v := .int .u32 (x.word 0)) rfl
        have b1 := HB.out.cell 1 (v := .int .u32 (x.word 1)) rfl
        have RC := hid (repair_call m mb x wr H2.out HO.out)
        go_wp2_with fail
        refine RC.out.mono ?_
        rintro e w3 ⟨rfl, k3, h3⟩
        have K3 := hid ((KA.out.fresh K2.out (by intro i hi hl; simp at hi; omega)).trans k3)
        have H3 := hid h3
        clear RC k3 h3 K2 H2 HA HB a0 a1 b0 b1 HM KA SC ee em0 em1 ew0 ew1 HO
        obtain ⟨r, hr⟩ : ∃ r, x.open = r := ⟨_, rfl⟩
        obtain ⟨rm, rv, re⟩ := r
        rw [hr] at H3
        simp only [hr]
        have HR := hid hr
        clear hr
        by_cases h0 : re = 0
        · subst h0
          have kc := (Kept.refl [] w3).alloc (.cells #[.pointer (some ⟨m, 0, none⟩), .int .u32 mx, .int .u32 rv, .bool false] 192)
          have hc := Has.new w3 192 [.pointer (some ⟨m, 0, none⟩), .int .u32 mx, .int .u32 rv, .bool false]
          have KC := hid (K3.out.trans (kc.mono (by simp)))
          have HC := hid hc
          have H4 := hid (H3.out.kept kc (by simp) (by simp))
          have hs := K3.out.size
          clear kc hc
          go_wp2_with fail
          go_ret2
          exact ⟨KC.out, by rw [HR.out]; exact H4.out, .inl ⟨by rw [HR.out], _, hs, rfl, by rw [HR.out]; exact HC.out⟩⟩
        · have n0 : (re != 0) = true := by simpa using h0
          go_wp2_with fail
          go_ret2
          exact ⟨K3.out, by rw [HR.out]; exact H3.out, .inr ⟨by rw [HR.out]; exact h0, by rw [HR.out]; rfl⟩⟩
end CellC
end Go.Proofs.YtinaliblnihpbaaGreat
