/- The walks and the plain laws of UDecW, Kx, HostA, HostB, HostL, HostK. -/
import Derived.Test.YtinaliblnihpbaaGreatV06
import Derived.Test.YtinaliblnihpbaaGreatV05
import Derived.Test.YtinaliblnihpbaaGreatV02
import Derived.Test.YtinaliblnihpbaaGreatV03
import Derived.StillTailTactics
set_option linter.unusedVariables false
set_option linter.unusedSimpArgs false
open Go.Lib (hid)
namespace Go.Proofs.YtinaliblnihpbaaGreat
namespace UDecW
open Go Go.RowKit Hp Sl Gf DogC SlC Ap CrcW TM SlM EncW UnW UEnc NumW
structure URange (u : U) : Prop where
  kind : 0 ≤ u.kind ∧ u.kind < 256
  code : 0 ≤ u.code ∧ u.code < 4294967296
  ses : 0 ≤ u.ses ∧ u.ses < 4294967296
  num : 0 ≤ u.num ∧ u.num < 4294967296
  flags : 0 ≤ u.flags ∧ u.flags < 256
  data : By u.data
  len : u.data.length ≤ 8
theorem w4_bytes {a : Nat} (h : a < 4294967296) : ∃ x y z v : Nat, x < 256 ∧ y < 256 ∧ z < 256 ∧ v < 256 ∧ w4 (a : Int) = [(x : Int), (y : Int), (z : Int), (v : Int)] ∧ num4 x y z v = a := by
  refine ⟨a / 16777216, a / 65536 % 256, a / 256 % 256, a % 256, by omega, by omega, by omega, by omega, ?_, ?_⟩
  · unfold w4
    congr 1
    · omega
  · unfold num4; omega
structure FrameAt (w : World) (b off : Nat) (u : U) (x1 x2 x3 x4 x5 x6 x7 x8 x9 x10 x11 x12 : Nat) : Prop where
  k : w.cell? ⟨b, off, none⟩ = some (.int .u8 u.kind)
  code : Four w b (off + 1) x1 x2 x3 x4
  ses : Four w b (off + 5) x5 x6 x7 x8
  num : Four w b (off + 9) x9 x10 x11 x12
  f : w.cell? ⟨b, off + 13, none⟩ = some (.int .u8 u.flags)
  n : w.cell? ⟨b, off + 14, none⟩ = some (.int .u8 (u.data.length : Nat))
  d : ∀ c, u.data.length ≤ c → c ≤ maxLen → Bytes w (.slice (some ⟨b, off + 15, none⟩) u.data.length c) u.data
  cc : ((num4 x1 x2 x3 x4 : Nat) : Int) = u.code
  ss : ((num4 x5 x6 x7 x8 : Nat) : Int) = u.ses
  nn : ((num4 x9 x10 x11 x12 : Nat) : Int) = u.num
theorem frame_shape {u : U} (hr : URange u) : ∃ x1 x2 x3 x4 x5 x6 x7 x8 x9 x10 x11 x12 : Nat, ∃ tl : List Int, tl.length = 4 ∧
    frame u = u.kind :: (x1 : Int) :: (x2 : Int) :: (x3 : Int) :: (x4 : Int) :: (x5 : Int) :: (x6 : Int) :: (x7 : Int) :: (x8 : Int) :: (x9 : Int) :: (x10 : Int) :: (x11 : Int) :: (x12 : Int) :: u.flags :: ((u.data.length : Nat) : Int) :: (u.data ++ tl)
    ∧ (x1 < 256 ∧ x2 < 256 ∧ x3 < 256 ∧ x4 < 256 ∧ ((num4 x1 x2 x3 x4 : Nat) : Int) = u.code) ∧ (x5 < 256 ∧ x6 < 256 ∧ x7 < 256 ∧ x8 < 256 ∧ ((num4 x5 x6 x7 x8 : Nat) : Int) = u.ses) ∧ (x9 < 256 ∧ x10 < 256 ∧ x11 < 256 ∧ x12 < 256 ∧ ((num4 x9 x10 x11 x12 : Nat) : Int) = u.num) := by
  obtain ⟨k, c, s, n, f, l⟩ := u
  obtain ⟨⟨k0, k1⟩, ⟨c0, c1⟩, ⟨s0, s1⟩, ⟨n0, n1⟩, ⟨f0, f1⟩, hb, hl⟩ := hr
  simp only at k0 k1 c0 c1 s0 s1 n0 n1 f0 f1 hb hl
  obtain ⟨C, rfl⟩ := Int.eq_ofNat_of_zero_le c0
  obtain ⟨S, rfl⟩ := Int.eq_ofNat_of_zero_le s0
  obtain ⟨N, rfl⟩ := Int.eq_ofNat_of_zero_le n0
  obtain ⟨x1, x2, x3, x4, g1, g2, g3, g4, e1, m1⟩ := w4_bytes (a := C) (by omega)
  obtain ⟨x5, x6, x7, x8, g5, g6, g7, g8, e2, m2⟩ := w4_bytes (a := S) (by omega)
  obtain ⟨x9, x10, x11, x12, g9, g10, g11, g12, e3, m3⟩ := w4_bytes (a := N) (by omega)
  refine ⟨x1, x2, x3, x4, x5, x6, x7, x8, x9, x10, x11, x12, w4 (crc (body ⟨k, C, S, N, f, l⟩) : Int), rfl, ?_, ⟨g1, g2, g3, g4, by rw [m1]⟩, ⟨g5, g6, g7, g8, by rw [m2]⟩, ⟨g9, g10, g11, g12, by rw [m3]⟩⟩
  unfold frame sealed
  generalize w4 (crc (body ⟨k, C, S, N, f, l⟩) : Int) = W
  unfold body
  rw [e1, e2, e3, show k % 256 = k by omega, show f % 256 = f by omega, show ((l.length : Nat) : Int) % 256 = ((l.length : Nat) : Int) by omega]
  simp
theorem frame_at {u : U} (hr : URange u) {w : World} {p : Option Addr} {c : Nat} (h : Bytes w (.slice p (frame u).length c) (frame u)) : ∃ b off x1 x2 x3 x4 x5 x6 x7 x8 x9 x10 x11 x12, p = some ⟨b, off, none⟩ ∧ b < w.heap.size ∧ c ≤ maxLen ∧ FrameAt w b off u x1 x2 x3 x4 x5 x6 x7 x8 x9 x10 x11 x12 := by
  have hlen := frame_len u
  obtain ⟨x1, x2, x3, x4, x5, x6, x7, x8, x9, x10, x11, x12, tl, htl, hf, ⟨g1, g2, g3, g4, m1⟩, ⟨g5, g6, g7, g8, m2⟩, ⟨g9, g10, g11, g12, m3⟩⟩ := frame_shape hr
  rcases h with ⟨_, h0⟩ | ⟨x, cap, e, q1, q2, h0 | ⟨b, off, rfl, hb, hc⟩⟩
  · rw [h0] at hlen; simp at hlen; omega
  · rw [h0] at hlen; simp at hlen; omega
  obtain ⟨rfl, rfl⟩ : p = some ⟨b, off, none⟩ ∧ c = cap := by injection e with e1 _ e3; exact ⟨e1, e3⟩
  rw [hlen] at hc
  have at_ : ∀ i, i < 19 + u.data.length → ∀ z, (frame u).getD i 0 = z → w.cell? ⟨b, off + i, none⟩ = some (.int .u8 z) := fun i hi z hz => by rw [hc i hi, hz]
  refine ⟨b, off, x1, x2, x3, x4, x5, x6, x7, x8, x9, x10, x11, x12, rfl, hb, q2, ?_, ⟨?_, ?_, ?_, ?_, g1, g2, g3, g4⟩, ⟨?_, ?_, ?_, ?_, g5, g6, g7, g8⟩, ⟨?_, ?_, ?_, ?_, g9, g10, g11, g12⟩, ?_, ?_, ?_, m1, m2, m3⟩
  · exact at_ 0 (by omega) _ (by rw [hf]; rfl)
  · exact at_ 1 (by omega) _ (by rw [hf]; rfl)
  · exact at_ 2 (by omega) _ (by rw [hf]; rfl)
  · exact at_ 3 (by omega) _ (by rw [hf]; rfl)
  · exact at_ 4 (by omega) _ (by rw [hf]; rfl)
  · exact at_ 5 (by omega) _ (by rw [hf]; rfl)
  · exact at_ 6 (by omega) _ (by rw [hf]; rfl)
  · exact at_ 7 (by omega) _ (by rw [hf]; rfl)
  · exact at_ 8 (by omega) _ (by rw [hf]; rfl)
  · exact at_ 9 (by omega) _ (by rw [hf]; rfl)
  · exact at_ 10 (by omega) _ (by rw [hf]; rfl)
  · exact at_ 11 (by omega) _ (by rw [hf]; rfl)
  · exact at_ 12 (by omega) _ (by rw [hf]; rfl)
  · exact at_ 13 (by omega) _ (by rw [hf]; rfl)
  · exact at_ 14 (by omega) _ (by rw [hf]; rfl)
  · intro c' h1 h2
    refine .inr ⟨_, _, rfl, h1, h2, .inr ⟨b, off + 15, rfl, hb, fun i hi => ?_⟩⟩
    rw [Nat.add_assoc]
    refine at_ (15 + i) (by omega) _ ?_
    rw [hf, List.getD_eq_getElem?_getD, List.getD_eq_getElem?_getD, show 15 + i = i + 15 by omega]
    simp only [List.getElem?_cons_succ]
    rw [List.getElem?_append_left hi]
theorem FrameAt.kept {w w' : World} {b off : Nat} {u : U} {x1 x2 x3 x4 x5 x6 x7 x8 x9 x10 x11 x12 : Nat} (h : FrameAt w b off u x1 x2 x3 x4 x5 x6 x7 x8 x9 x10 x11 x12) (k : Kept [] w w') (hb : b < w.heap.size) : FrameAt w' b off u x1 x2 x3 x4 x5 x6 x7 x8 x9 x10 x11 x12 := by
  have q : ∀ i, w'.cell? ⟨b, i, none⟩ = w.cell? ⟨b, i, none⟩ := fun i => k.cell (p := ⟨b, i, none⟩) hb (by simp)
  have f4 : ∀ {o y0 y1 y2 y3}, Four w b o y0 y1 y2 y3 → Four w' b o y0 y1 y2 y3 := fun h => ⟨(q _).trans h.c0, (q _).trans h.c1, (q _).trans h.c2, (q _).trans h.c3, h.h0, h.h1, h.h2, h.h3⟩
  exact ⟨(q _).trans h.k, f4 h.code, f4 h.ses, f4 h.num, (q _).trans h.f, (q _).trans h.n, fun c h1 h2 => (h.d c h1 h2).kept k (by simp), h.cc, h.ss, h.nn⟩
set_option maxRecDepth 100000 in
theorem decode_bad (v : Value) (L : List Int) (w : World) (hs : Bytes w v L) (hb : By L) (h1 : 19 ≤ L.length) (h2 : L.length ≤ 27) (hc : crc L ≠ 0) :
    Calls Tryz.prog 98 #[v] w fun e w' => e = .returned (.tuple #[uval U.zero (.slice none 0 0), .int .i64 42]) ∧ Kept [] w w' := by
  obtain ⟨sp, sc, rfl, hsc⟩ := sl_shape hs
  have e1 : decide ((L.length : Int) < 19) = false := by simp; omega
  have e2 : decide ((L.length : Int) > 27) = false := by simp; omega
  have k0 := (Kept.refl [] w).alloc (.cells #[.int .i64 0, .int .u32 0, .int .u32 0, .int .u32 0, .int .i64 0, .slice none 0 0] 63)
  have VC := hid (valid_call _ L _ (hs.kept k0 (by simp)) hb (by omega) (by omega))
  rw [decide_eq_false hc] at VC
  have h0 := Has.new w 63 [.int .i64 0, .int .u32 0, .int .u32 0, .int .u32 0, .int .i64 0, .slice none 0 0]
  have K0 := hid k0
  have H0 := hid h0
  clear hs hb h1 h2 hc k0 h0
  go_enter Tryz.func98, Tryz.ntmps98
  go_wp2_with fail
  refine VC.out.mono ?_
  rintro e w1 ⟨rfl, rfl⟩
  go_wp2_with fail
  refine bodyPost_ret (v := .tuple #[uval U.zero (.slice none 0 0), .int .i64 42]) (by simp [results, Tryz.results98, go_sem, uval, U.zero]) rfl ⟨rfl, K0.out⟩
theorem keep6 {w : World} {R b o1 o2 : Nat} {v0 v1 v2 v3 v4 v5 y1 y2 : Value} (h : w.cell? ⟨b, o1, none⟩ = some y1 ∧ w.cell? ⟨b, o2, none⟩ = some y2) (hne : b ≠ R) :
    ((((((w.setCell ⟨R, 0, none⟩ v0).setCell ⟨R, 1, none⟩ v1).setCell ⟨R, 2, none⟩ v2).setCell ⟨R, 3, none⟩ v3).setCell ⟨R, 4, none⟩ v4).setCell ⟨R, 5, none⟩ v5).cell? ⟨b, o1, none⟩ = some y1 ∧ ((((((w.setCell ⟨R, 0, none⟩ v0).setCell ⟨R, 1, none⟩ v1).setCell ⟨R, 2, none⟩ v2).setCell ⟨R, 3, none⟩ v3).setCell ⟨R, 4, none⟩ v4).setCell ⟨R, 5, none⟩ v5).cell? ⟨b, o2, none⟩ = some y2 := by
  have k := ((((((Kept.refl [R] w).set ⟨R, 0, none⟩ v0 (by simp)).set ⟨R, 1, none⟩ v1 (by simp)).set ⟨R, 2, none⟩ v2 (by simp)).set ⟨R, 3, none⟩ v3 (by simp)).set ⟨R, 4, none⟩ v4 (by simp)).set ⟨R, 5, none⟩ v5 (by simp)
  have hb : b < w.heap.size := World.block_lt_of_cell? _ _ h.1
  exact ⟨(k.cell (p := ⟨b, o1, none⟩) hb (by simpa using hne)).trans h.1, (k.cell (p := ⟨b, o2, none⟩) hb (by simpa using hne)).trans h.2⟩
theorem has6 {w : World} {R T : Nat} {z0 z1 z2 z3 z4 z5 v0 v1 v2 v3 v4 v5 : Value} (h : Has w R T [z0, z1, z2, z3, z4, z5]) :
    Has ((((((w.setCell ⟨R, 0, none⟩ v0).setCell ⟨R, 1, none⟩ v1).setCell ⟨R, 2, none⟩ v2).setCell ⟨R, 3, none⟩ v3).setCell ⟨R, 4, none⟩ v4).setCell ⟨R, 5, none⟩ v5) R T [v0, v1, v2, v3, v4, v5] :=
  (((((h.set 0 v0).set 1 v1).set 2 v2).set 3 v3).set 4 v4).set 5 v5
theorem kept6R (w : World) (R : Nat) (v0 v1 v2 v3 v4 v5 : Value) :
    Kept [R] w ((((((w.setCell ⟨R, 0, none⟩ v0).setCell ⟨R, 1, none⟩ v1).setCell ⟨R, 2, none⟩ v2).setCell ⟨R, 3, none⟩ v3).setCell ⟨R, 4, none⟩ v4).setCell ⟨R, 5, none⟩ v5) :=
  ((((((Kept.refl [R] w).set ⟨R, 0, none⟩ v0 (by simp)).set ⟨R, 1, none⟩ v1 (by simp)).set ⟨R, 2, none⟩ v2 (by simp)).set ⟨R, 3, none⟩ v3 (by simp)).set ⟨R, 4, none⟩ v4 (by simp)).set ⟨R, 5, none⟩ v5 (by simp)
theorem kept6 {w0 w : World} {R : Nat} {v0 v1 v2 v3 v4 v5 : Value} (k : Kept [] w0 w) (h : w0.heap.size ≤ R) :
    Kept [] w0 ((((((w.setCell ⟨R, 0, none⟩ v0).setCell ⟨R, 1, none⟩ v1).setCell ⟨R, 2, none⟩ v2).setCell ⟨R, 3, none⟩ v3).setCell ⟨R, 4, none⟩ v4).setCell ⟨R, 5, none⟩ v5) := by
  have q : ∀ i, (Addr.mk R i none).block < w0.heap.size → (Addr.mk R i none).block ∈ ([] : List Nat) := fun i hi => absurd hi (by simpa using h)
  exact (((((k.set _ _ (q 0)).set _ _ (q 1)).set _ _ (q 2)).set _ _ (q 3)).set _ _ (q 4)).set _ _ (q 5)
theorem keepA {w : World} {b o1 o2 : Nat} {y1 y2 : Value} {o : Obj} (h : w.cell? ⟨b, o1, none⟩ = some y1 ∧ w.cell? ⟨b, o2, none⟩ = some y2) : (w.alloc o).cell? ⟨b, o1, none⟩ = some y1 ∧ (w.alloc o).cell? ⟨b, o2, none⟩ = some y2 := by
  have k := (Kept.refl [] w).alloc o
  have hb : b < w.heap.size := World.block_lt_of_cell? _ _ h.1
  exact ⟨(k.cell (p := ⟨b, o1, none⟩) hb (by simp)).trans h.1, (k.cell (p := ⟨b, o2, none⟩) hb (by simp)).trans h.2⟩
theorem keepAD {w : World} {b o1 o2 : Nat} {y1 y2 : Value} {o : Obj} (h : w.cell? ⟨b, o1, none⟩ = some y1 ∧ w.cell? ⟨b, o2, none⟩ = some y2) : (w.alloc o).drew.cell? ⟨b, o1, none⟩ = some y1 ∧ (w.alloc o).drew.cell? ⟨b, o2, none⟩ = some y2 := keepA h
set_option maxRecDepth 100000 in
set_option maxHeartbeats 6400000 in
theorem decode_ok (u : U) (hr : URange u) (hl : Law u) (v : Value) (w : World) (hs : Bytes w v (frame u)) :
    Calls Tryz.prog 98 #[v] w fun e w' => ∃ v', e = .returned (.tuple #[uval u v', .int .i64 0]) ∧ Kept [] w w' ∧ Made w w' v' u.data := by
  obtain ⟨sp, sc, rfl, hsc⟩ := sl_shape hs
  have hlen := frame_len u
  have h8 := hr.len
  have e1 : decide (((frame u).length : Int) < 19) = false := by simp; omega
  have e2 : decide (((frame u).length : Int) > 27) = false := by simp; omega
  have k0 := (Kept.refl [] w).alloc (.cells #[.int .i64 0, .int .u32 0, .int .u32 0, .int .u32 0, .int .i64 0, .slice none 0 0] 63)
  have VC := hid (valid_call _ (frame u) _ (hs.kept k0 (by simp)) (frame_by hr.data) (by omega) (by omega))
  have hcz : crc (frame u) = 0 := crc_sealed
  rw [decide_eq_true hcz] at VC
  have h0 := Has.new w 63 [.int .i64 0, .int .u32 0, .int .u32 0, .int .u32 0, .int .i64 0, .slice none 0 0]
  obtain ⟨b, off, x1, x2, x3, x4, x5, x6, x7, x8, x9, x10, x11, x12, rfl, hbl, hml, hf⟩ := frame_at hr hs
  have hf0 := hid (FrameAt.kept hf k0 hbl)
  have HBL := hid (show b < (w.alloc (.cells #[.int .i64 0, .int .u32 0, .int .u32 0, .int .u32 0, .int .i64 0, .slice none 0 0] 63)).heap.size by simp; omega)
  have K0 := hid k0
  have H0 := hid h0
  have LW := hid hl
  have RG := hid hr
  obtain ⟨n, hn⟩ : ∃ n, (frame u).length = n := ⟨_, rfl⟩
  rw [hn] at e1 e2 hlen hsc VC
  have HLn := hid hlen
  have esub : wrap64 ((n : Int) - 4) = ((15 + u.data.length : Nat) : Int) := by rw [wrap64_id (by omega) (by omega)]; omega
  have hin : 15 + u.data.length ≤ n := by omega
  have hn19 : 19 ≤ n := by omega
  clear hs hl hr k0 h0 hf hbl hcz h8 hlen
  go_enter Tryz.func98, Tryz.ntmps98
  rw [hn]
  go_wp2_with fail
  refine VC.out.mono ?_
  rintro e w1 ⟨rfl, rfl⟩
  go_wp2_with fail
  rw [show 15 + u.data.length - 15 = u.data.length by omega]
  generalize hWW : w.alloc (.cells #[.int .i64 0, .int .u32 0, .int .u32 0, .int .u32 0, .int .i64 0, .slice none 0 0] 63) = w0 at *
  generalize hR0 : w.heap.size = R0 at *
  have RH := hid (Nat.le_of_eq hR0)
  clear hR0
  have b1 : (1 : Int) ≤ (n : Int) := by omega
  have b5 : (5 : Int) ≤ (n : Int) := by omega
  have b9 : (9 : Int) ≤ (n : Int) := by omega
  have b13 : (13 : Int) < (n : Int) := by omega
  have b0 : 0 < n := by omega
  have bn : (n : Int) ≤ (sc : Int) := by omega
  have c1 : ¬ (sc = 1) := by omega
  have c5 : ¬ (sc = 5) := by omega
  have c9 : ¬ (sc = 9) := by omega
  have wk : IntKind.i64.wrap u.kind = u.kind := i64_id (by have := RG.out.kind; omega) (by have := RG.out.kind; omega)
  have wf : IntKind.i64.wrap u.flags = u.flags := i64_id (by have := RG.out.flags; omega) (by have := RG.out.flags; omega)
  have FK := hid (fun w' (k : Kept [] w0 w') => FrameAt.kept hf0.out k HBL.out)
  have fd := FK.out _ ((Kept.refl [] w0).drew)
  have dd := And.intro fd.k fd.f
  have dd0 : w0.cell? ⟨b, off, none⟩ = some (.int .u8 u.kind) ∧ w0.cell? ⟨b, off + 13, none⟩ = some (.int .u8 u.flags) := dd
  clear fd
  set_option maxHeartbeats 20000000 in
  go_region_held3 (fun w' => w'.cell? ⟨b, off, none⟩ = some (.int .u8 u.kind) ∧ w'.cell? ⟨b, off + 13, none⟩ = some (.int .u8 u.flags)) (first | with_reducible assumption | with_reducible exact keep6 dw6 HN.out | with_reducible exact keepA dw6 | with_reducible exact keepA dw5 | with_reducible exact keepA dw4 | with_reducible exact keepAD dd0 | with_reducible exact keep6 (keepA dw6) (by have := HBL.out; have := k6.size; omega) | go_keep)
    (first
      | (go_at_call 126; with_reducible refine (get_call b (off + 9) (n - 9) (sc - 9) x9 x10 x11 x12 (by omega) (by omega) _ (FK.out _ (k5)).num).mono ?_; rintro e w6 ⟨rfl, k6'⟩; have k6 := (k5).trans k6'; have fw6 := FK.out _ k6; have dw6 := And.intro fw6.k fw6.f; clear fw6; (try have hR := hid (k6'.has hR.out (by simp))); (try have cz := And.intro (hR.out.cell 0 rfl) (And.intro (hR.out.cell 1 rfl) (And.intro (hR.out.cell 2 rfl) (And.intro (hR.out.cell 3 rfl) (And.intro (hR.out.cell 4 rfl) (hR.out.cell 5 rfl)))))); (try have fz := And.intro (hR.out.free 0) (And.intro (hR.out.free 1) (And.intro (hR.out.free 2) (And.intro (hR.out.free 3) (And.intro (hR.out.free 4) (hR.out.free 5)))))); clear k6')
      | (go_at_call 126; with_reducible refine (get_call b (off + 5) (n - 5) (sc - 5) x5 x6 x7 x8 (by omega) (by omega) _ (FK.out _ (k4)).ses).mono ?_; rintro e w5 ⟨rfl, k5'⟩; have k5 := (k4).trans k5'; have fw5 := FK.out _ k5; have dw5 := And.intro fw5.k fw5.f; clear fw5; (try have hR := hid (k5'.has hR.out (by simp))); clear k5')
      | (go_at_call 126; with_reducible refine (get_call b (off + 1) (n - 1) (sc - 1) x1 x2 x3 x4 (by omega) (by omega) _ (FK.out _ ((Kept.refl [] w0).drew)).code).mono ?_; rintro e w4 ⟨rfl, k4'⟩; have k4 := ((Kept.refl [] w0).drew).trans k4'; have fw4 := FK.out _ k4; have dw4 := And.intro fw4.k fw4.f; clear fw4; (try have hR := hid (k4'.has hR.out (by simp))); clear k4')
      | (go_at_call 126; with_reducible refine (get_call b (off + 9) (n - 9) (sc - 9) x9 x10 x11 x12 (by omega) (by omega) _ (FK.out _ ((k5).alloc _)).num).mono ?_; rintro e w6 ⟨rfl, k6'⟩; have k6 := ((k5).alloc _).trans k6'; have fw6 := FK.out _ k6; have dw6 := And.intro fw6.k fw6.f; clear fw6; have HN := hid (show b ≠ w5.heap.size by have := HBL.out; have := k5.size; omega); have hR := Has.new w5 63 [.int .i64 0, .int .u32 0, .int .u32 0, .int .u32 0, .int .i64 0, .slice none 0 0]; have hR := k6'.has hR (by simp); have hR := hid hR; (try have cz := And.intro (hR.out.cell 0 rfl) (And.intro (hR.out.cell 1 rfl) (And.intro (hR.out.cell 2 rfl) (And.intro (hR.out.cell 3 rfl) (And.intro (hR.out.cell 4 rfl) (hR.out.cell 5 rfl)))))); (try have fz := And.intro (hR.out.free 0) (And.intro (hR.out.free 1) (And.intro (hR.out.free 2) (And.intro (hR.out.free 3) (And.intro (hR.out.free 4) (hR.out.free 5)))))); clear k6')
      | (go_at_call 126; with_reducible refine (get_call b (off + 5) (n - 5) (sc - 5) x5 x6 x7 x8 (by omega) (by omega) _ (FK.out _ ((k4).alloc _)).ses).mono ?_; rintro e w5 ⟨rfl, k5'⟩; have k5 := ((k4).alloc _).trans k5'; have fw5 := FK.out _ k5; have dw5 := And.intro fw5.k fw5.f; clear fw5; have HN := hid (show b ≠ w4.heap.size by have := HBL.out; have := k4.size; omega); have hR := Has.new w4 63 [.int .i64 0, .int .u32 0, .int .u32 0, .int .u32 0, .int .i64 0, .slice none 0 0]; have hR := k5'.has hR (by simp); have hR := hid hR; clear k5')
      | (go_at_call 126; with_reducible refine (get_call b (off + 1) (n - 1) (sc - 1) x1 x2 x3 x4 (by omega) (by omega) _ (FK.out _ (((Kept.refl [] w0).alloc _).drew)).code).mono ?_; rintro e w4 ⟨rfl, k4'⟩; have k4 := (((Kept.refl [] w0).alloc _).drew).trans k4'; have fw4 := FK.out _ k4; have dw4 := And.intro fw4.k fw4.f; clear fw4; have HN := hid (show b ≠ w0.heap.size by have := HBL.out; omega); have hR := (Has.new w0 63 [.int .i64 0, .int .u32 0, .int .u32 0, .int .u32 0, .int .i64 0, .slice none 0 0]).drew; have hR := k4'.has hR (by simp); have hR := hid hR; clear k4'))
  have hU := hid (show Has (w6.alloc (.cells #[.int .i64 u.kind, .int .u32 ((num4 x1 x2 x3 x4 : Nat) : Int), .int .u32 ((num4 x5 x6 x7 x8 : Nat) : Int), .int .u32 ((num4 x9 x10 x11 x12 : Nat) : Int), .int .i64 u.flags, .slice none 0 0] 63)) w6.heap.size 63 [.int .i64 u.kind, .int .u32 ((num4 x1 x2 x3 x4 : Nat) : Int), .int .u32 ((num4 x5 x6 x7 x8 : Nat) : Int), .int .u32 ((num4 x9 x10 x11 x12 : Nat) : Int), .int .i64 u.flags, .slice none 0 0] from Has.new w6 63 [.int .i64 u.kind, .int .u32 ((num4 x1 x2 x3 x4 : Nat) : Int), .int .u32 ((num4 x5 x6 x7 x8 : Nat) : Int), .int .u32 ((num4 x9 x10 x11 x12 : Nat) : Int), .int .i64 u.flags, .slice none 0 0])
  have KU := hid (k6.alloc (.cells #[.int .i64 u.kind, .int .u32 ((num4 x1 x2 x3 x4 : Nat) : Int), .int .u32 ((num4 x5 x6 x7 x8 : Nat) : Int), .int .u32 ((num4 x9 x10 x11 x12 : Nat) : Int), .int .i64 u.flags, .slice none 0 0] 63))
  have RU := hid (show w0.heap.size ≤ w6.heap.size from k6.size)
  generalize w6.alloc (.cells #[.int .i64 u.kind, .int .u32 ((num4 x1 x2 x3 x4 : Nat) : Int), .int .u32 ((num4 x5 x6 x7 x8 : Nat) : Int), .int .u32 ((num4 x9 x10 x11 x12 : Nat) : Int), .int .i64 u.flags, .slice none 0 0] 63) = wz at hU KU ⊢
  generalize w6.heap.size = R1 at hU RU ⊢
  rotate_left 1
  have hU := hid (has6 (v0 := .int .i64 u.kind) (v1 := .int .u32 ((num4 x1 x2 x3 x4 : Nat) : Int)) (v2 := .int .u32 ((num4 x5 x6 x7 x8 : Nat) : Int)) (v3 := .int .u32 ((num4 x9 x10 x11 x12 : Nat) : Int)) (v4 := .int .i64 u.flags) (v5 := .slice none 0 0) hR.out)
  have KU := hid (kept6 (v0 := .int .i64 u.kind) (v1 := .int .u32 ((num4 x1 x2 x3 x4 : Nat) : Int)) (v2 := .int .u32 ((num4 x5 x6 x7 x8 : Nat) : Int)) (v3 := .int .u32 ((num4 x9 x10 x11 x12 : Nat) : Int)) (v4 := .int .i64 u.flags) (v5 := .slice none 0 0) k6 (k5.size))
  have RU := hid (show w0.heap.size ≤ w5.heap.size from k5.size)
  generalize ((((((w6.setCell ⟨w5.heap.size, 0, none⟩ (.int .i64 u.kind)).setCell ⟨w5.heap.size, 1, none⟩ (.int .u32 ((num4 x1 x2 x3 x4 : Nat) : Int))).setCell ⟨w5.heap.size, 2, none⟩ (.int .u32 ((num4 x5 x6 x7 x8 : Nat) : Int))).setCell ⟨w5.heap.size, 3, none⟩ (.int .u32 ((num4 x9 x10 x11 x12 : Nat) : Int))).setCell ⟨w5.heap.size, 4, none⟩ (.int .i64 u.flags)).setCell ⟨w5.heap.size, 5, none⟩ (.slice none 0 0)) = wz at hU KU ⊢
  generalize w5.heap.size = R1 at hU RU ⊢
  rotate_left 1
  have hU := hid (has6 (v0 := .int .i64 u.kind) (v1 := .int .u32 ((num4 x1 x2 x3 x4 : Nat) : Int)) (v2 := .int .u32 ((num4 x5 x6 x7 x8 : Nat) : Int)) (v3 := .int .u32 ((num4 x9 x10 x11 x12 : Nat) : Int)) (v4 := .int .i64 u.flags) (v5 := .slice none 0 0) hR.out)
  have KU := hid (kept6 (v0 := .int .i64 u.kind) (v1 := .int .u32 ((num4 x1 x2 x3 x4 : Nat) : Int)) (v2 := .int .u32 ((num4 x5 x6 x7 x8 : Nat) : Int)) (v3 := .int .u32 ((num4 x9 x10 x11 x12 : Nat) : Int)) (v4 := .int .i64 u.flags) (v5 := .slice none 0 0) k6 (k4.size))
  have RU := hid (show w0.heap.size ≤ w4.heap.size from k4.size)
  generalize ((((((w6.setCell ⟨w4.heap.size, 0, none⟩ (.int .i64 u.kind)).setCell ⟨w4.heap.size, 1, none⟩ (.int .u32 ((num4 x1 x2 x3 x4 : Nat) : Int))).setCell ⟨w4.heap.size, 2, none⟩ (.int .u32 ((num4 x5 x6 x7 x8 : Nat) : Int))).setCell ⟨w4.heap.size, 3, none⟩ (.int .u32 ((num4 x9 x10 x11 x12 : Nat) : Int))).setCell ⟨w4.heap.size, 4, none⟩ (.int .i64 u.flags)).setCell ⟨w4.heap.size, 5, none⟩ (.slice none 0 0)) = wz at hU KU ⊢
  generalize w4.heap.size = R1 at hU RU ⊢
  rotate_left 1
  have hU := hid (has6 (v0 := .int .i64 u.kind) (v1 := .int .u32 ((num4 x1 x2 x3 x4 : Nat) : Int)) (v2 := .int .u32 ((num4 x5 x6 x7 x8 : Nat) : Int)) (v3 := .int .u32 ((num4 x9 x10 x11 x12 : Nat) : Int)) (v4 := .int .i64 u.flags) (v5 := .slice none 0 0) hR.out)
  have KU := hid (kept6 (v0 := .int .i64 u.kind) (v1 := .int .u32 ((num4 x1 x2 x3 x4 : Nat) : Int)) (v2 := .int .u32 ((num4 x5 x6 x7 x8 : Nat) : Int)) (v3 := .int .u32 ((num4 x9 x10 x11 x12 : Nat) : Int)) (v4 := .int .i64 u.flags) (v5 := .slice none 0 0) k6 (Nat.le_refl _))
  generalize ((((((w6.setCell ⟨w0.heap.size, 0, none⟩ (.int .i64 u.kind)).setCell ⟨w0.heap.size, 1, none⟩ (.int .u32 ((num4 x1 x2 x3 x4 : Nat) : Int))).setCell ⟨w0.heap.size, 2, none⟩ (.int .u32 ((num4 x5 x6 x7 x8 : Nat) : Int))).setCell ⟨w0.heap.size, 3, none⟩ (.int .u32 ((num4 x9 x10 x11 x12 : Nat) : Int))).setCell ⟨w0.heap.size, 4, none⟩ (.int .i64 u.flags)).setCell ⟨w0.heap.size, 5, none⟩ (.slice none 0 0)) = wz at hU KU ⊢
  generalize hR1 : w0.heap.size = R1 at hU ⊢
  have RU := hid (Nat.le_of_eq hR1)
  clear hR1
  rotate_left 1
  all_goals try clear k4 k5 k6 dw4 dw5 dw6
  all_goals try clear cz fz hR HN
  all_goals (
    have wl : IntKind.i64.wrap (u.data.length : Int) = u.data.length := i64_id (by omega) (by have := RG.out.len; omega)
    have fz := FK.out _ KU.out
    have f14 := fz.n
    have DZ := hid (fz.d (sc - 15) (by omega) (by omega))
    simp only [hf0.out.cc, hf0.out.ss, hf0.out.nn] at hU ⊢
    clear fz
    go_wp2_with fail
    refine (clone_call _ u.data wz DZ.out (by have := RG.out.len; omega)).mono ?_
    rintro e w8 ⟨v8, rfl, k8, h8⟩
    have m8 := made_of_cloned DZ.out h8
    have H8 := k8.has hU.out (by simp)
    have hU8 := hid H8
    obtain ⟨p8, c8, rfl⟩ := m8.shape
    have M8 := hid m8
    have K8 := hid k8
    have y0 := H8.cell 0 rfl
    have y1 := H8.cell 1 rfl
    have y2 := H8.cell 2 rfl
    have y3 := H8.cell 3 rfl
    have y4 := H8.cell 4 rfl
    have y5 := H8.cell 5 rfl
    have y6 := H8.free 5
    clear k8 h8 m8 H8 f14
    go_wp2_with fail
    refine (lawful_call u LW.out p8 c8 _).mono ?_
    rintro e w9 ⟨rfl, k9⟩
    have kS := Kept.set (Kept.refl [R1] w8) ⟨R1, 5, none⟩ (.slice p8 u.data.length c8) (by simp)
    have H9 := k9.has (hU8.out.set 5 (.slice p8 u.data.length c8)) (by simp)
    have K9 := hid (((KU.out.trans K8.out).set ⟨R1, 5, none⟩ (.slice p8 u.data.length c8) (fun h => absurd h (Nat.not_lt.2 RU.out))).trans k9)
    have M9 := hid ((M8.out.kept kS (fun bb hbb => by simp only [List.mem_singleton]; exact Nat.ne_of_gt (Nat.lt_of_lt_of_le hU.out.lt (M8.out.2 bb hbb)))).kept k9 (by simp))
    have f14 := (FK.out _ K9.out).n
    clear y0 y1 y2 y3 y4 y5 y6 kS k9
    have y0 := H9.cell 0 rfl
    have y1 := H9.cell 1 rfl
    have y2 := H9.cell 2 rfl
    have y3 := H9.cell 3 rfl
    have y4 := H9.cell 4 rfl
    have y5 := H9.cell 5 rfl
    have hz := K9.out.has H0.out (by simp)
    have z0 := hz.cell 0 rfl
    have z1 := hz.cell 1 rfl
    have z2 := hz.cell 2 rfl
    have z3 := hz.cell 3 rfl
    have z4 := hz.cell 4 rfl
    have z5 := hz.cell 5 rfl
    have fz := And.intro (hz.free 0) (And.intro (hz.free 1) (And.intro (hz.free 2) (And.intro (hz.free 3) (And.intro (hz.free 4) (hz.free 5)))))
    have HZ := hid (has6 (v0 := .int .i64 u.kind) (v1 := .int .u32 u.code) (v2 := .int .u32 u.ses) (v3 := .int .u32 u.num) (v4 := .int .i64 u.flags) (v5 := .slice p8 u.data.length c8) hz)
    have KZ := hid (K9.out)
    clear H9 hz
    go_wp2_with fail
    refine bodyPost_ret (v := .tuple #[uval u (.slice p8 u.data.length c8), .int .i64 0]) (by simp [results, Tryz.results98, go_sem, uval, *]) rfl ⟨_, rfl, kept6 (K0.out.trans K9.out) RH.out, ?_⟩
    have mm := M9.out.kept (kept6R w9 R0 (.int .i64 u.kind) (.int .u32 u.code) (.int .u32 u.ses) (.int .u32 u.num) (.int .i64 u.flags) (.slice p8 u.data.length c8)) (fun bb hbb => by simp only [List.mem_singleton]; exact Nat.ne_of_gt (Nat.lt_of_lt_of_le H0.out.lt (Nat.le_trans KU.out.size (M9.out.2 bb hbb))))
    exact ⟨mm.1, fun i hi => Nat.le_trans (K0.out.trans KU.out).size (mm.2 i hi)⟩)
end UDecW
namespace Kx
open Go Go.RowKit Hp Sl Ow Rw MeterC DiagC
def Bad (T : TypeId) : Bool := T == 5 || T == 203 || T == 239 || T == 249 || T == 207 || T == 134 || T == 142 || T == 192 || T == 126 || T == 63
def OkT (w : World) (b : Nat) : Prop := ∀ T cs, Has w b T cs → Bad T = false
theorem okT {w : World} {b : Nat} {T : TypeId} {cs : List Value} (h : Has w b T cs) (hT : Bad T = false) : OkT w b := by
  intro T' cs' h'
  by_cases e : T = T'
  · rw [← e]; exact hT
  · exact absurd rfl (Ow.Has.ne h h' e)
variable {G : Nat → Prop} {w w' w'' : World} {lg : Nat}
theorem IsLog.typed (h : IsLog G w lg) : IsLog (fun b => G b ∧ OkT w b) w lg := by
  obtain ⟨al, mb, la, v, n, xs, l, mm, q, h1, h2, h3, h4, h5, h6, h7, h8, h9, h10⟩ := h
  refine ⟨al, mb, la, v, n, xs, l, mm, q, h1, h2, fun b' e => ?_, ⟨h4.own, h4.keys, h4.apart, fun p hp => ?_⟩, h5, h6, ⟨h7, okT h1 (by decide)⟩, ⟨h8, okT h2.1 (by decide)⟩, ⟨h9, fun T cs hh => absurd rfl (h4.ne hh)⟩, fun g hg => ⟨h10 g hg, ?_⟩⟩
  · have hh := h2.2
    cases q with
    | none => rw [show mm.last = none from hh] at e; cases e
    | some r =>
      obtain ⟨b2, e2, h2'⟩ := hh
      have e3 := e
      rw [e2] at e3; cases e3
      exact ⟨h3 _ e2, okT h2' (by decide)⟩
  · obtain ⟨b, m, e, hm, hGb, hne⟩ := h4.vals p hp
    exact ⟨b, m, e, hm, ⟨hGb, okT hm (by decide)⟩, hne⟩
  · obtain ⟨_, _, ⟨_, _, e⟩ | ⟨g', cap, cur, e1, _, hh, _⟩⟩ := h5
    · rw [e] at hg; cases hg
    · rw [e1] at hg; cases hg; exact okT hh (by decide)
def KL (G : Nat → Prop) (w w' : World) : Prop := ∃ S : List Nat, (∀ k, k ∈ S → k < w.heap.size → G k ∧ OkT w k) ∧ Kept S w w'
theorem KL.has {b : Nat} {T : TypeId} {cs : List Value} (k : KL G w w') (h : Has w b T cs) (hT : Bad T = true) : Has w' b T cs := by
  obtain ⟨S, h1, h2⟩ := k
  exact h2.has h (fun hb => by have := (h1 _ hb h.lt).2 _ _ h; rw [hT] at this; cases this)
theorem KL.own {b : Nat} {v : Value} {l : List Int} (k : KL G w w') (h : Own w b v l) : Own w' b v l := by
  obtain ⟨S, h1, h2⟩ := k
  refine h.kept h2 (fun hb => ?_)
  obtain ⟨_, _, _, hh, _⟩ := id h
  have := (h1 _ hb h.lt).2 _ _ hh
  exact absurd this (by decide)
theorem KL.kg (k : KL G w w') (hG : Opn G w) : KG G w w' := by
  obtain ⟨S, h1, h2⟩ := k
  refine ⟨S, fun b hb => ?_, h2⟩
  rcases Nat.lt_or_ge b w.heap.size with h | h
  · exact (h1 b hb h).1
  · exact hG b h
theorem IsLog.kept2 {S : List Nat} (h : IsLog G w lg) (k : Kept S w w') (hS : ∀ b, b ∈ S → b < w.heap.size → ¬ G b ∨ ∃ T cs, Has w b T cs ∧ Bad T = true) : IsLog G w' lg :=
  (IsLog.kept (IsLog.typed h) k (fun b hb hl ⟨hg, ho⟩ => by
    rcases hS b hb hl with h | ⟨T, cs, h, hT⟩
    · exact h hg
    · have := ho _ _ h; rw [hT] at this; cases this)).mono (fun b _ h => h.1)
theorem noted (lg : Nat) (c : Nat) (hc : 1 ≤ c) (hc2 : c < 1000) (s n : Int) (w : World) (hG : Opn G w) (h : IsLog G w lg) : Calls Tryz.prog 100 #[.pointer (some ⟨lg, 0, none⟩), .int .i64 (c : Nat), .int .u32 s, .int .u32 n] w fun e w' => (∃ v, e = .returned v) ∧ KL G w w' ∧ IsLog G w' lg := by
  refine (note_call (fun b => G b ∧ OkT w b) lg c hc hc2 s n w (fun b hb => ⟨hG b hb, fun T cs h => absurd h.lt (Nat.not_lt.2 hb)⟩) (IsLog.typed h)).mono ?_
  rintro e w' ⟨he, ⟨S, h1, h2⟩, h3⟩
  exact ⟨he, ⟨S, fun k hk _ => h1 k hk, h2⟩, h3.mono (fun b _ h => h.1)⟩
end Kx
namespace HostC
open Go Go.RowKit Hp Sl Ow DiagC ValveC DogC Kx TM
def hcells (d v lg : Nat) (s : Value) (x : H) : List Value := [.int .u32 x.p.code, .int .i64 x.p.out, .int .i64 x.p.inn, .int .i64 x.p.watch, .int .u32 x.p.count, .pointer (some ⟨d, 0, none⟩), .pointer (some ⟨v, 0, none⟩), .pointer (some ⟨lg, 0, none⟩), .int .i64 x.state, .int .u32 x.ses, .int .u32 x.num, .int .u32 x.sent, .bool x.waits, .int .i64 x.missed, s, .bool x.hold]
structure HAt (G : Nat → Prop) (w : World) (b d v g o lg k : Nat) (s : Value) (x : H) : Prop where
  top : Has w b 134 (hcells d v lg s x)
  dog : IsDog w d x.p.watch x.since
  val : IsV G w v g o x.v
  log : IsLog G w lg
  own : Own w k s x.value
  gb : G b
  gd : G d
  gv : G v
  gg : G g
  go : G o
  gk : G k
variable {G : Nat → Prop} {w w' w'' : World} {b d v g o lg k : Nat} {s : Value} {x y : H}
theorem hasV {z : V} (h : IsV G w v g o z) : (∃ cs, Has w v 203 cs) ∧ (∃ cs, Has w g 239 cs) ∧ ∃ cs, Has w o 249 cs := by
  obtain ⟨s, t, h1, h2, _⟩ := h; exact ⟨⟨_, h1⟩, ⟨_, h2.1⟩, ⟨_, h2.2⟩⟩
theorem HAt.nil (h : HAt G w b d v g o lg k s x) (q : Kept [] w w') : HAt G w' b d v g o lg k s x :=
  ⟨q.has h.top (by simp), h.dog.kept q (by simp), h.val.kept q (by simp), h.log.kept q (by simp), h.own.kept q (by simp), h.gb, h.gd, h.gv, h.gg, h.go, h.gk⟩
theorem HAt.dogs {n : Int} (h : HAt G w b d v g o lg k s x) (q : Kept [d] w w') (hd : IsDog w' d x.p.watch n) : HAt G w' b d v g o lg k s { x with since := n } := by
  have e1 : b ≠ d := Ow.Has.ne h.top h.dog.has (by decide)
  refine ⟨q.has h.top (by simpa using e1), hd, h.val.kept2 q (fun i hi hl => ?_), Kx.IsLog.kept2 h.log q (fun i hi hl => .inr ?_), h.own.kept q ?_, h.gb, h.gd, h.gv, h.gg, h.go, h.gk⟩
  · simp at hi; subst hi; exact ⟨_, _, h.dog.has, by decide, by decide, by decide, by decide⟩
  · simp at hi; subst hi; exact ⟨_, _, h.dog.has, by decide⟩
  · simpa using ValveC.Own.ne h.own h.dog.has (by decide)
theorem HAt.vals {z : V} (h : HAt G w b d v g o lg k s x) (q : Kept [v, g, o] w w') (hz : IsV G w' v g o z) : HAt G w' b d v g o lg k s { x with v := z } := by
  obtain ⟨⟨c1, h1⟩, ⟨c2, h2⟩, ⟨c3, h3⟩⟩ := hasV h.val
  refine ⟨q.has h.top ?_, h.dog.kept q ?_, hz, Kx.IsLog.kept2 h.log q (fun i hi hl => .inr ?_), h.own.kept q ?_, h.gb, h.gd, h.gv, h.gg, h.go, h.gk⟩
  · have a1 := Ow.Has.ne h.top h1 (by decide); have a2 := Ow.Has.ne h.top h2 (by decide); have a3 := Ow.Has.ne h.top h3 (by decide)
    simp; exact ⟨a1, a2, a3⟩
  · have a1 := Ow.Has.ne h.dog.has h1 (by decide); have a2 := Ow.Has.ne h.dog.has h2 (by decide); have a3 := Ow.Has.ne h.dog.has h3 (by decide)
    simp; exact ⟨a1, a2, a3⟩
  · simp at hi
    rcases hi with rfl | rfl | rfl
    · exact ⟨_, _, h1, by decide⟩
    · exact ⟨_, _, h2, by decide⟩
    · exact ⟨_, _, h3, by decide⟩
  · have a1 := ValveC.Own.ne h.own h1 (by decide); have a2 := ValveC.Own.ne h.own h2 (by decide); have a3 := ValveC.Own.ne h.own h3 (by decide)
    simp; exact ⟨a1, a2, a3⟩
theorem HAt.one {z : V} (h : HAt G w b d v g o lg k s x) (q : Kept [v] w w') (hz : IsV G w' v g o z) : HAt G w' b d v g o lg k s { x with v := z } := h.vals (q.mono (by simp)) hz
theorem HAt.logs (h : HAt G w b d v g o lg k s x) (q : KL G w w') (hl : IsLog G w' lg) : HAt G w' b d v g o lg k s x := by
  refine ⟨q.has h.top (by decide), ⟨q.has h.dog.has (by decide), h.dog.low, h.dog.le, h.dog.top⟩, ?_, hl, q.own h.own, h.gb, h.gd, h.gv, h.gg, h.go, h.gk⟩
  obtain ⟨S, h1, h2⟩ := q
  refine h.val.kept3 h2 (fun i hi hl T cs hh => ?_)
  have := (h1 i hi hl).2 T cs hh
  refine ⟨?_, ?_, ?_, ?_⟩ <;> (rintro rfl; exact absurd this (by decide))
theorem HAt.tops (h : HAt G w b d v g o lg k s x) (q : Kept [b] w w') (ht : Has w' b 134 (hcells d v lg s y)) (ep : y.p = x.p) (es : y.since = x.since) (ev : y.v = x.v) (el : y.value = x.value) : HAt G w' b d v g o lg k s y := by
  refine ⟨ht, ?_, ?_, Kx.IsLog.kept2 h.log q (fun i hi hl => .inr ?_), ?_, h.gb, h.gd, h.gv, h.gg, h.go, h.gk⟩
  · rw [ep, es]; exact h.dog.kept q (by simpa using Ow.Has.ne h.dog.has h.top (by decide))
  · rw [ev]; exact h.val.kept2 q (fun i hi hl => by simp at hi; subst hi; exact ⟨_, _, h.top, by decide, by decide, by decide, by decide⟩)
  · simp at hi; subst hi; exact ⟨_, _, h.top, by decide⟩
  · rw [el]; exact h.own.kept q (by simpa using ValveC.Own.ne h.own h.top (by decide))
theorem HAt.frame {S : List Nat} (h : HAt G w b d v g o lg k s x) (q : Kept S w w') (hS : ∀ i, i ∈ S → i < w.heap.size → ¬ G i) : HAt G w' b d v g o lg k s x :=
  ⟨q.has h.top (fun hi => hS _ hi h.top.lt h.gb), h.dog.kept q (fun hi => hS _ hi h.dog.has.lt h.gd), h.val.frame q h.gv h.gg h.go hS, h.log.kept q hS, h.own.kept q (fun hi => hS _ hi h.own.lt h.gk), h.gb, h.gd, h.gv, h.gg, h.go, h.gk⟩
theorem HAt.mono {G' : Nat → Prop} (h : HAt G w b d v g o lg k s x) (hG : ∀ i, i < w.heap.size → G i → G' i) : HAt G' w b d v g o lg k s x :=
  ⟨h.top, h.dog, h.val.mono hG, h.log.mono hG, h.own, hG _ h.top.lt h.gb, hG _ h.dog.has.lt h.gd, hG _ h.val.lt.1 h.gv, hG _ h.val.lt.2.1 h.gg, hG _ h.val.lt.2.2 h.go, hG _ h.own.lt h.gk⟩
theorem HAt.temp {R : Nat} {cs : List Value} (h : HAt G w b d v g o lg k s x) (hR : Has w R 63 cs) (q : Kept [R] w w') : HAt G w' b d v g o lg k s x := by
  refine ⟨q.has h.top (by simpa using Ow.Has.ne h.top hR (by decide)), h.dog.kept q (by simpa using Ow.Has.ne h.dog.has hR (by decide)), h.val.kept2 q (fun i hi hl => ?_), Kx.IsLog.kept2 h.log q (fun i hi hl => .inr ?_), h.own.kept q (by simpa using ValveC.Own.ne h.own hR (by decide)), h.gb, h.gd, h.gv, h.gg, h.go, h.gk⟩
  · simp at hi; subst hi; exact ⟨_, _, hR, by decide, by decide, by decide, by decide⟩
  · simp at hi; subst hi; exact ⟨_, _, hR, by decide⟩
theorem HAt.bare {R : Nat} {cs : List Value} (h : HAt G w b d v g o lg k s x) (hR : Has w R 63 cs) : HAt (fun i => G i ∧ i ≠ R) w b d v g o lg k s x := by
  obtain ⟨⟨c1, h1⟩, ⟨c2, h2⟩, ⟨c3, h3⟩⟩ := hasV h.val
  refine ⟨h.top, h.dog, ?_, (Kx.IsLog.typed h.log).mono (fun i _ hi => ⟨hi.1, fun e => ?_⟩), h.own, ⟨h.gb, Ow.Has.ne h.top hR (by decide)⟩, ⟨h.gd, Ow.Has.ne h.dog.has hR (by decide)⟩, ⟨h.gv, Ow.Has.ne h1 hR (by decide)⟩, ⟨h.gg, Ow.Has.ne h2 hR (by decide)⟩, ⟨h.go, Ow.Has.ne h3 hR (by decide)⟩, ⟨h.gk, ValveC.Own.ne h.own hR (by decide)⟩⟩
  · obtain ⟨s', t, q1, q2, q3⟩ := h.val
    refine ⟨s', t, q1, q2, ?_⟩
    revert q3
    cases x.v.value with
    | none => exact id
    | some l =>
      rintro ⟨h8, k', ho, hg⟩
      exact ⟨h8, k', ho, hg, ValveC.Own.ne ho hR (by decide)⟩
  · subst e; exact absurd (hi.2 _ _ hR) (by decide)
theorem opn_bare {R : Nat} (hG : Opn G w) (hR : R < w.heap.size) : Opn (fun i => G i ∧ i ≠ R) w := fun i hi => ⟨hG i hi, fun e => by omega⟩
theorem kg_bare {R : Nat} (h : KG (fun i => G i ∧ i ≠ R) w w') : KG G w w' := h.shed (fun i _ hi => hi.1)
theorem keepS {R b i j : Nat} {u u' : Value} {w : World} (h : w.cell? ⟨b, j, none⟩ = some u) (hne : b ≠ R) : (w.setCell ⟨R, i, none⟩ u').cell? ⟨b, j, none⟩ = some u :=
  (((Kept.refl [R] w).set ⟨R, i, none⟩ u' (by simp)).cell (p := ⟨b, j, none⟩) (World.block_lt_of_cell? _ _ h) (by simpa using hne)).trans h
theorem HAt.set (h : HAt G w b d v g o lg k s x) (i : Nat) (u : Value) (hu : (hcells d v lg s x).set i u = hcells d v lg s y) (ep : y.p = x.p) (es : y.since = x.since) (ev : y.v = x.v) (el : y.value = x.value) : HAt G (w.setCell ⟨b, i, none⟩ u) b d v g o lg k s y :=
  h.tops ((Kept.refl [b] w).set ⟨b, i, none⟩ u (by simp)) (hu ▸ h.top.set i u) ep es ev el
end HostC
namespace HostC
open Go Go.RowKit Hp Sl Ow DiagC ValveC DogC Kx TM
variable {G : Nat → Prop} {w w' w'' : World} {b d v g o lg k : Nat} {s : Value} {x y : H}
set_option maxRecDepth 100000 in
theorem trip_call (c : Nat) (hc : 1 ≤ c) (hc2 : c < 1000) (hG : Opn G w) (h : HAt G w b d v g o lg k s x) :
    Calls Tryz.prog 104 #[.pointer (some ⟨b, 0, none⟩), .int .i64 (c : Nat)] w fun e w' => e = .returned (.tuple #[]) ∧ KG G w w' ∧ HAt G w' b d v g o lg k s (x.trip c) := by
  have c6 := h.top.cell 6 (v := .pointer (some ⟨v, 0, none⟩)) rfl
  have HH := hid h
  have HC := hid hc
  have HC2 := hid hc2
  have HG := hid hG
  clear h hc hc2 hG
  go_enter Tryz.func104, Tryz.ntmps104
  go_wp2_with fail
  refine (ValveC.trip_call v g o x.v c _ HH.out.val).mono ?_
  rintro e w1 ⟨rfl, k1, h1⟩
  have K1 := hid (KG.of k1 (G := G) (by have := HH.out.gv; have := HH.out.gg; have := HH.out.go; intro i hi; simp at hi; rcases hi with rfl | rfl | rfl <;> assumption))
  have H1 := hid (HH.out.vals k1 h1)
  clear k1 h1
  have HG1 := hid (HG.out.kg K1.out)
  have e1 : decide ((c : Int) ≠ 0) = true := by have := HC.out; simp; omega
  rw [e1, Bool.true_and]
  have c7 := H1.out.top.cell 7 (v := .pointer (some ⟨lg, 0, none⟩)) rfl
  have c9 := H1.out.top.cell 9 (v := .int .u32 x.ses) rfl
  have c10 := H1.out.top.cell 10 (v := .int .u32 x.num) rfl
  clear e1
  by_cases hl : x.v.latched = 0
  · rw [decide_eq_true hl]
    clear hl
    go_wp2_with fail
    have c7' : w1.drew.cell? ⟨b, 7, none⟩ = some (.pointer (some ⟨lg, 0, none⟩)) := c7
    have c9' : w1.drew.cell? ⟨b, 9, none⟩ = some (.int .u32 x.ses) := c9
    have c10' : w1.drew.cell? ⟨b, 10, none⟩ = some (.int .u32 x.num) := c10
    (refine wp_region_still_tail 15 (by kernel_rfl) (by kernel_rfl) ?_; simp only [List.take_succ_cons, List.take_zero, List.drop_succ_cons, List.drop_zero]; (repeat still_step); refine wpStill_nil ?_)
    change wpList _ _ _ _ _ w1.drew
    go_wp2_with fail
    have H2 := hid (H1.out.nil ((Kept.refl [] w1).drew))
    refine (noted lg c HC.out HC2.out x.ses x.num w1.drew HG1.out H2.out.log).mono ?_
    rintro e w2 ⟨⟨r, rfl⟩, k2, h2⟩
    go_wp2_with fail
    go_end0
    exact ⟨rfl, K1.out.drew.trans (k2.kg HG1.out), H2.out.logs k2 h2⟩
  · rw [decide_eq_false hl]
    clear hl
    go_wp2_with fail
    go_end0
    exact ⟨rfl, K1.out, H1.out⟩
set_option maxRecDepth 100000 in
theorem alive_call (hG : Opn G w) (h : HAt G w b d v g o lg k s x) :
    Calls Tryz.prog 158 #[.pointer (some ⟨b, 0, none⟩)] w fun e w' => e = .returned (.tuple #[]) ∧ KG G w w' ∧ HAt G w' b d v g o lg k s x.alive := by
  have HH := hid h
  have c12 := h.top.cell 12 (v := .bool x.waits) rfl
  have z12 := h.top.free 12
  have c13 := h.top.cell 13 (v := .int .i64 x.missed) rfl
  have z13 := h.top.free 13
  have c5 := h.top.cell 5 (v := .pointer (some ⟨d, 0, none⟩)) rfl
  clear h hG
  go_enter Tryz.func158, Tryz.ntmps158
  go_wp2_with fail
  have q1 := (HH.out.set (y := { x with waits := false }) 12 (.bool false) rfl rfl rfl rfl rfl).set (y := { x with waits := false, missed := 0 }) 13 (.int .i64 0) rfl rfl rfl rfl rfl
  have K1 := hid (((KG.refl (G := G) (w := w)).set (i := 12) (v := .bool false) HH.out.gb).set (i := 13) (v := .int .i64 0) HH.out.gb)
  have Q1 := hid q1
  generalize (w.setCell ⟨b, 12, none⟩ (.bool false)).setCell ⟨b, 13, none⟩ (.int .i64 0) = w1 at K1 Q1 ⊢
  clear q1 c12 z12 c13 z13 c5
  refine (feed_call d _ _ _ Q1.out.dog).mono ?_
  rintro e w2 ⟨rfl, k2, h2⟩
  have Q2 := hid (Q1.out.dogs k2 h2)
  have K2 := hid (K1.out.trans (.one k2 HH.out.gd))
  have c6 := Q2.out.top.cell 6 (v := .pointer (some ⟨v, 0, none⟩)) rfl
  clear k2 h2
  go_wp2_with fail
  refine (ValveC.fresh_call v g o x.v _ Q2.out.val).mono ?_
  rintro e w3 ⟨rfl, k3, h3⟩
  go_wp2_with fail
  go_end0
  exact ⟨rfl, K2.out.trans (.one k3 HH.out.gv), Q2.out.one k3 h3⟩
set_option maxRecDepth 100000 in
theorem leave_call (st : Int) (h : HAt G w b d v g o lg k s x) :
    Calls Tryz.prog 117 #[.pointer (some ⟨b, 0, none⟩), .int .i64 st] w fun e w' => e = .returned (.tuple #[]) ∧ KG G w w' ∧ HAt G w' b d v g o lg k s (x.leave st) := by
  have HH := hid h
  have c6 := h.top.cell 6 (v := .pointer (some ⟨v, 0, none⟩)) rfl
  clear h
  go_enter Tryz.func117, Tryz.ntmps117
  go_wp2_with fail
  refine (ValveC.run_call v g o x.v false _ HH.out.val).mono ?_
  rintro e w1 ⟨rfl, k1, h1⟩
  have Q1 := hid (HH.out.one k1 h1)
  have K1 := hid (KG.one k1 HH.out.gv)
  have c8 := Q1.out.top.cell 8 (v := .int .i64 x.state) rfl
  have z8 := Q1.out.top.free 8
  have c10 := Q1.out.top.cell 10 (v := .int .u32 x.num) rfl
  have z10 := Q1.out.top.free 10
  have c11 := Q1.out.top.cell 11 (v := .int .u32 x.sent) rfl
  have z11 := Q1.out.top.free 11
  have c12 := Q1.out.top.cell 12 (v := .bool x.waits) rfl
  have z12 := Q1.out.top.free 12
  have c13 := Q1.out.top.cell 13 (v := .int .i64 x.missed) rfl
  have z13 := Q1.out.top.free 13
  clear k1 h1
  go_wp2_with fail
  go_end0
  have q1 := ((((Q1.out.set (y := { x with v := x.v.run false, state := st }) 8 (.int .i64 st) rfl rfl rfl rfl rfl).set (y := { x with v := x.v.run false, state := st, num := 0 }) 10 (.int .u32 0) rfl rfl rfl rfl rfl).set (y := { x with v := x.v.run false, state := st, num := 0, sent := 0 }) 11 (.int .u32 0) rfl rfl rfl rfl rfl).set (y := { x with v := x.v.run false, state := st, num := 0, sent := 0, waits := false }) 12 (.bool false) rfl rfl rfl rfl rfl).set (y := x.leave st) 13 (.int .i64 0) rfl rfl rfl rfl rfl
  exact ⟨rfl, ((((K1.out.set HH.out.gb).set HH.out.gb).set HH.out.gb).set HH.out.gb).set HH.out.gb, q1⟩
end HostC
namespace HostC
open Go Go.RowKit Hp Sl Ow DiagC ValveC DogC Kx TM
variable {G : Nat → Prop} {w w' w'' : World} {b d v g o lg k : Nat} {s : Value} {x y : H}
set_option maxRecDepth 100000 in
theorem lost_call (hm : 0 ≤ x.missed) (hm2 : x.missed < 4) (hG : Opn G w) (h : HAt G w b d v g o lg k s x) :
    Calls Tryz.prog 95 #[.pointer (some ⟨b, 0, none⟩)] w fun e w' => e = .returned (.tuple #[]) ∧ KG G w w' ∧ HAt G w' b d v g o lg k s x.lost := by
  have HH := hid h
  have HG := hid hG
  have c8 := h.top.cell 8 (v := .int .i64 x.state) rfl
  have c12 := h.top.cell 12 (v := .bool x.waits) rfl
  have c13 := h.top.cell 13 (v := .int .i64 x.missed) rfl
  have z13 := h.top.free 13
  have ew : wrap64 (x.missed + 1) = x.missed + 1 := wrap64_id (by omega) (by omega)
  clear h hG
  by_cases h1 : x.state = 1
  · have ex : x.lost = x := by unfold H.lost; rw [if_pos (.inl h1)]
    rw [ex]
    have e1 : (x.state == 1) = true := by simp [h1]
    clear ex h1
    go_enter Tryz.func95, Tryz.ntmps95
    go_wp2_with fail
    (first | go_end0 | ((try simp only [Exit.inBlock, Exit.then]); refine bodyPost_ret (results_none rfl _ _ _) rfl ?_))
    exact ⟨rfl, .refl, HH.out⟩
  have e1 : (x.state == 1) = false := by simp [h1]
  by_cases h2 : x.waits = false
  · have ex : x.lost = x := by unfold H.lost; rw [if_pos (.inr h2)]
    rw [ex]
    rw [h2] at c12
    clear ex h1 h2
    go_enter Tryz.func95, Tryz.ntmps95
    go_wp2_with fail
    (first | go_end0 | ((try simp only [Exit.inBlock, Exit.then]); refine bodyPost_ret (results_none rfl _ _ _) rfl ?_))
    exact ⟨rfl, .refl, HH.out⟩
  have h2' : x.waits = true := by simpa using h2
  rw [h2'] at c12
  have q1 := HH.out.set (y := { x with missed := x.missed + 1 }) 13 (.int .i64 (x.missed + 1)) rfl rfl rfl rfl rfl
  have K1 := hid ((KG.refl (G := G) (w := w)).set (i := 13) (v := .int .i64 (x.missed + 1)) HH.out.gb)
  have Q1 := hid q1
  by_cases h3 : x.missed + 1 < 4
  · have ex : x.lost = { x with missed := x.missed + 1 } := by unfold H.lost; rw [if_neg (by simp [h1, h2]), if_pos h3]
    rw [ex]
    have e2 : decide (x.missed + 1 < 4) = true := by simp; omega
    clear ex h1 h2 h3 hm hm2 h2' q1
    go_enter Tryz.func95, Tryz.ntmps95
    go_wp2_with fail
    (first | go_end0 | ((try simp only [Exit.inBlock, Exit.then]); refine bodyPost_ret (results_none rfl _ _ _) rfl ?_))
    exact ⟨rfl, K1.out, Q1.out⟩
  have e2 : decide (x.missed + 1 < 4) = false := by simp; omega
  have HG1 := hid (HG.out.kg K1.out)
  by_cases h4 : x.state = 4
  · have ex : x.lost = (({ x with missed := x.missed + 1 } : H).trip 131).leave 1 := by unfold H.lost; rw [if_neg (by simp [h1, h2]), if_neg h3, if_pos h4]
    rw [ex]
    have e4 : (x.state == 4) = true := by simp [h4]
    clear ex h1 h2 h3 h4 hm hm2 h2' q1
    go_enter Tryz.func95, Tryz.ntmps95
    go_wp2_with fail
    have c8' := Q1.out.top.cell 8 (v := .int .i64 x.state) rfl
    go_wp2_with fail
    refine (trip_call 131 (by decide) (by decide) HG1.out Q1.out).mono ?_
    rintro e w2 ⟨rfl, k2, h2⟩
    go_wp2_with fail
    refine (leave_call 1 h2).mono ?_
    rintro e w3 ⟨rfl, k3, h3⟩
    go_wp2_with fail
    (first | go_end0 | ((try simp only [Exit.inBlock, Exit.then]); refine bodyPost_ret (results_none rfl _ _ _) rfl ?_))
    exact ⟨rfl, (K1.out.trans k2).trans k3, h3⟩
  · have ex : x.lost = ({ x with missed := x.missed + 1 } : H).leave 1 := by unfold H.lost; rw [if_neg (by simp [h1, h2]), if_neg h3, if_neg h4]
    rw [ex]
    have e4 : (x.state == 4) = false := by simp [h4]
    clear ex h1 h2 h3 h4 hm hm2 h2' q1
    go_enter Tryz.func95, Tryz.ntmps95
    go_wp2_with fail
    have c8' := Q1.out.top.cell 8 (v := .int .i64 x.state) rfl
    go_wp2_with fail
    refine (leave_call 1 Q1.out).mono ?_
    rintro e w3 ⟨rfl, k3, h3⟩
    go_wp2_with fail
    (first | go_end0 | ((try simp only [Exit.inBlock, Exit.then]); refine bodyPost_ret (results_none rfl _ _ _) rfl ?_))
    exact ⟨rfl, K1.out.trans k3, h3⟩
set_option maxRecDepth 100000 in
set_option maxHeartbeats 6400000 in
theorem flags_call (hn : 1 ≤ x.v.n) (hn8 : x.v.n ≤ 8) (h : HAt G w b d v g o lg k s x) :
    Calls Tryz.prog 121 #[.pointer (some ⟨b, 0, none⟩)] w fun e w' => e = .returned (.int .i64 (flagsOf x.v x.hold)) ∧ Kept [] w w' := by
  have HH := hid h
  have HN := hid hn
  have HN8 := hid hn8
  have c6 := h.top.cell 6 (v := .pointer (some ⟨v, 0, none⟩)) rfl
  have c15 := h.top.cell 15 (v := .bool x.hold) rfl
  clear h hn hn8
  cases eo : x.v.on <;> cases er : x.v.request <;> cases el : (x.v.latched != 0) <;> cases eh : x.hold
  all_goals (
    rw [eh] at c15
    have EO := hid eo
    have ER := hid er
    have EL := hid (show (x.v.latched = 0) = ((x.v.latched != 0) = false) by simp)
    have EM := hid el
    have EH := hid eh
    clear eo er eh
    go_enter Tryz.func121, Tryz.ntmps121
    go_wp2_with fail
    refine (output_call v g o x.v _ HH.out.val HN.out HN8.out).mono ?_
    rintro e w1 ⟨s1, rfl, k1, _⟩
    rw [EO.out]
    have H1 := hid (HH.out.nil k1)
    have c6' := H1.out.top.cell 6 (v := .pointer (some ⟨v, 0, none⟩)) rfl
    have c15' := H1.out.top.cell 15 (v := .bool x.hold) rfl
    rw [EH.out] at c15'
    have K1 := hid k1
    clear k1
    go_wp2_with fail
    refine (request_call v g o x.v _ H1.out.val).mono ?_
    rintro e w2 ⟨rfl, rfl⟩
    rw [ER.out]
    go_wp2_with fail
    refine (latched_call v g o x.v _ H1.out.val).mono ?_
    rintro e w2 ⟨rfl, rfl⟩
    go_wp2_with fail
    go_ret
    exact ⟨by simp only [flagsOf, EO.out, ER.out, EL.out, EM.out, EH.out]; rfl, K1.out⟩)
end HostC
namespace HostC
open Go Go.RowKit Gf SlC CrcW SlM Hp Sl Ow DiagC ValveC DogC Kx TM EncW ParW UnW UEnc NumW UDecW
structure HOk (x : H) : Prop where
  p : POk x.p
  st : x.state = 1 ∨ x.state = 2 ∨ x.state = 3 ∨ x.state = 4 ∨ x.state = 5
  ses : 0 ≤ x.ses ∧ x.ses < 4294967296
  live : x.state ≠ 1 → 0 < x.ses
  num : 0 ≤ x.num ∧ x.num < 4294967296
  sent : 0 ≤ x.sent ∧ x.sent ≤ x.p.count
  more : x.state ≠ 5 → x.sent < x.p.count
  missed : 0 ≤ x.missed ∧ x.missed < 4
  vn : x.v.n = x.p.inn
  len : (x.value.length : Int) = x.p.out
  byt : By x.value
variable {G : Nat → Prop} {w w' w'' : World} {b d v g o lg k : Nat} {s : Value} {x y : H}
theorem HOk.law1 (h : HOk x) (hs : x.state = 1) : Law ⟨1, x.p.code, 0, 0, 0, sigB x.p⟩ := by
  refine .inl ⟨rfl, ?_, .inl ⟨rfl, rfl⟩, .inr (.inr ⟨rfl, rfl⟩), .inr (.inr ⟨rfl, rfl⟩), Int.le_refl _, (by show (0 : Int) ≤ 15; decide), fun _ => rfl⟩
  have := h.p.code; show x.p.code ≠ 0; omega
theorem HOk.law2 (h : HOk x) (hs : x.state = 2) : Law ⟨2, x.p.code, x.ses, 0, 0, sigB x.p⟩ := by
  refine .inr (.inl ⟨rfl, ?_, .inl ⟨rfl, rfl⟩, .inr (.inl ⟨rfl, h.live (by omega)⟩), .inr (.inr ⟨rfl, rfl⟩), Int.le_refl _, (by show (0 : Int) ≤ 15; decide), fun _ => rfl⟩)
  have := h.p.code; show x.p.code ≠ 0; omega
theorem HOk.law3 (h : HOk x) (hs : x.state = 3) : Law ⟨3, x.p.code, x.ses, 0, 0, []⟩ := by
  refine .inr (.inr (.inr (.inl ⟨rfl, ?_, .inr (.inr ⟨rfl, rfl⟩), .inr (.inl ⟨rfl, h.live (by omega)⟩), .inr (.inr ⟨rfl, rfl⟩), Int.le_refl _, (by show (0 : Int) ≤ 15; decide), fun _ => rfl⟩)))
  have := h.p.code; show x.p.code ≠ 0; omega
theorem bytes_none (w : World) : Bytes w (.slice none 0 0) [] := .inl ⟨rfl, rfl⟩
set_option maxRecDepth 100000 in
theorem compose1 (hx : HOk x) (h1 : x.state = 1) (h : HAt G w b d v g o lg k s x) :
    Calls Tryz.prog 96 #[.pointer (some ⟨b, 0, none⟩)] w fun e w' => ∃ f, e = .returned f ∧ Kept [] w w' ∧ Made w w' f (frame ⟨1, x.p.code, 0, 0, 0, sigB x.p⟩) := by
  have c0 := h.top.cell 0 (v := .int .u32 x.p.code) rfl
  have c1 := h.top.cell 1 (v := .int .i64 x.p.out) rfl
  have c2 := h.top.cell 2 (v := .int .i64 x.p.inn) rfl
  have c3 := h.top.cell 3 (v := .int .i64 x.p.watch) rfl
  have c4 := h.top.cell 4 (v := .int .u32 x.p.count) rfl
  have HH := hid h
  have HX := hid hx
  have ST := hid h1
  clear h hx h1
  go_enter Tryz.func96, Tryz.ntmps96
  go_wp2_with fail
  refine (signature_call x.p HX.out.p _).mono ?_
  rintro e w1 ⟨rfl, k1⟩
  go_wp2_with fail
  have H1 := hid (HH.out.nil k1)
  have K1 := hid k1
  clear c0 c1 c2 c3 c4 k1
  have c0 := H1.out.top.cell 0 (v := .int .u32 x.p.code) rfl
  have c9 := H1.out.top.cell 9 (v := .int .u32 x.ses) rfl
  have dd : w1.drew.cell? ⟨b, 0, none⟩ = some (.int .u32 x.p.code) ∧ w1.drew.cell? ⟨b, 9, none⟩ = some (.int .u32 x.ses) := ⟨c0, c9⟩
  go_region_held3 (fun w' => w'.cell? ⟨b, 0, none⟩ = some (.int .u32 x.p.code) ∧ w'.cell? ⟨b, 9, none⟩ = some (.int .u32 x.ses)) (first | with_reducible assumption | go_keep) (fail)
  have hU := hid ((Has.new w1 63 [.int .i64 0, .int .u32 x.p.code, .int .u32 x.ses, .int .u32 0, .int .i64 0, .slice none 0 0]).drew)
  have K2 := hid ((K1.out.alloc (.cells #[.int .i64 0, .int .u32 x.p.code, .int .u32 x.ses, .int .u32 0, .int .i64 0, .slice none 0 0] 63)).drew)
  have H2 := hid (H1.out.nil (((Kept.refl [] w1).alloc (.cells #[.int .i64 0, .int .u32 x.p.code, .int .u32 x.ses, .int .u32 0, .int .i64 0, .slice none 0 0] 63)).drew))
  have RU := hid K1.out.size
  clear dd c0 c9
  change Exit.then _ _ Exit.normal _ (w1.alloc (.cells #[.int .i64 0, .int .u32 x.p.code, .int .u32 x.ses, .int .u32 0, .int .i64 0, .slice none 0 0] 63)).drew
  have hU : Hid (Has (w1.alloc (.cells #[.int .i64 0, .int .u32 x.p.code, .int .u32 x.ses, .int .u32 0, .int .i64 0, .slice none 0 0] 63)).drew w1.heap.size 63 [.int .i64 0, .int .u32 x.p.code, .int .u32 x.ses, .int .u32 0, .int .i64 0, .slice none 0 0]) := hU
  have K2 : Hid (Kept [] w (w1.alloc (.cells #[.int .i64 0, .int .u32 x.p.code, .int .u32 x.ses, .int .u32 0, .int .i64 0, .slice none 0 0] 63)).drew) := K2
  have H2 : Hid (HAt G (w1.alloc (.cells #[.int .i64 0, .int .u32 x.p.code, .int .u32 x.ses, .int .u32 0, .int .i64 0, .slice none 0 0] 63)).drew b d v g o lg k s x) := H2
  generalize (w1.alloc (.cells #[.int .i64 0, .int .u32 x.p.code, .int .u32 x.ses, .int .u32 0, .int .i64 0, .slice none 0 0] 63)).drew = w2 at hU K2 H2 ⊢
  generalize w1.heap.size = R at hU RU ⊢
  have c8 := H2.out.top.cell 8 (v := .int .i64 x.state) rfl
  rw [ST.out] at c8
  have y0 := hU.out.cell 0 rfl
  have y1 := hU.out.cell 1 rfl
  have y2 := hU.out.cell 2 rfl
  have y3 := hU.out.cell 3 rfl
  have y4 := hU.out.cell 4 rfl
  have y5 := hU.out.cell 5 rfl
  have z0 := hU.out.free 0
  have z2 := hU.out.free 2
  have z5 := hU.out.free 5
  go_wp2_with fail
  refine (bytes_call (sigN x.p : Nat) w2).mono ?_
  rintro e w3 ⟨v3, rfl, k3, m3⟩
  have hU3 := hid (k3.has hU.out (by simp))
  have K3 := hid (K2.out.trans k3)
  obtain ⟨p3, c3, rfl⟩ := m3.shape
  have M3 := hid (show Made w2 w3 (.slice p3 4 c3) (sigB x.p) from m3)
  have HN := hid (Kept.refl [R] w3)
  clear k3 m3 y0 y1 y2 y3 y4 y5 z0 z2 z5 c8
  have y0 := hU3.out.cell 0 rfl
  have y1 := hU3.out.cell 1 rfl
  have y2 := hU3.out.cell 2 rfl
  have y3 := hU3.out.cell 3 rfl
  have y4 := hU3.out.cell 4 rfl
  have y5 := hU3.out.cell 5 rfl
  have z0 := hU3.out.free 0
  have z2 := hU3.out.free 2
  have z5 := hU3.out.free 5
  rw [show (w4 ((sigN x.p : Nat) : Int)).length = 4 from rfl]
  go_wp2_with fail
  have kk := (((Kept.refl [R] w3).set ⟨R, 0, none⟩ (.int .i64 1) (by simp)).set ⟨R, 2, none⟩ (.int .u32 0) (by simp)).set ⟨R, 5, none⟩ (.slice p3 4 c3) (by simp)
  have MM := hid (M3.out.kept kk (fun bb hbb => by simp only [List.mem_singleton]; exact Nat.ne_of_gt (Nat.lt_of_lt_of_le hU.out.lt (M3.out.2 bb hbb))))
  have KK := hid (K3.out.fresh kk (fun i hi hl => by simp only [List.mem_singleton] at hi; subst hi; exact absurd hl (Nat.not_lt.2 RU.out)))
  clear kk
  refine (UEnc.encode_call ⟨1, x.p.code, 0, 0, 0, sigB x.p⟩ (HX.out.law1 ST.out) (.slice p3 4 c3) _ MM.out.bytes (w4_by _)).mono ?_
  rintro e w5 ⟨v5, rfl, k5, m5⟩
  go_wp2_with fail
  go_ret
  exact ⟨v5, rfl, KK.out.trans k5, m5.1, fun i hi => Nat.le_trans KK.out.size (m5.2 i hi)⟩
set_option maxRecDepth 100000 in
theorem compose2 (hx : HOk x) (h1 : x.state = 2) (h : HAt G w b d v g o lg k s x) :
    Calls Tryz.prog 96 #[.pointer (some ⟨b, 0, none⟩)] w fun e w' => ∃ f, e = .returned f ∧ Kept [] w w' ∧ Made w w' f (frame ⟨2, x.p.code, x.ses, 0, 0, sigB x.p⟩) := by
  have c0 := h.top.cell 0 (v := .int .u32 x.p.code) rfl
  have c1 := h.top.cell 1 (v := .int .i64 x.p.out) rfl
  have c2 := h.top.cell 2 (v := .int .i64 x.p.inn) rfl
  have c3 := h.top.cell 3 (v := .int .i64 x.p.watch) rfl
  have c4 := h.top.cell 4 (v := .int .u32 x.p.count) rfl
  have HH := hid h
  have HX := hid hx
  have ST := hid h1
  clear h hx h1
  go_enter Tryz.func96, Tryz.ntmps96
  go_wp2_with fail
  refine (signature_call x.p HX.out.p _).mono ?_
  rintro e w1 ⟨rfl, k1⟩
  go_wp2_with fail
  have H1 := hid (HH.out.nil k1)
  have K1 := hid k1
  clear c0 c1 c2 c3 c4 k1
  have c0 := H1.out.top.cell 0 (v := .int .u32 x.p.code) rfl
  have c9 := H1.out.top.cell 9 (v := .int .u32 x.ses) rfl
  have dd : w1.drew.cell? ⟨b, 0, none⟩ = some (.int .u32 x.p.code) ∧ w1.drew.cell? ⟨b, 9, none⟩ = some (.int .u32 x.ses) := ⟨c0, c9⟩
  go_region_held3 (fun w' => w'.cell? ⟨b, 0, none⟩ = some (.int .u32 x.p.code) ∧ w'.cell? ⟨b, 9, none⟩ = some (.int .u32 x.ses)) (first | with_reducible assumption | go_keep) (fail)
  have hU := hid ((Has.new w1 63 [.int .i64 0, .int .u32 x.p.code, .int .u32 x.ses, .int .u32 0, .int .i64 0, .slice none 0 0]).drew)
  have K2 := hid ((K1.out.alloc (.cells #[.int .i64 0, .int .u32 x.p.code, .int .u32 x.ses, .int .u32 0, .int .i64 0, .slice none 0 0] 63)).drew)
  have H2 := hid (H1.out.nil (((Kept.refl [] w1).alloc (.cells #[.int .i64 0, .int .u32 x.p.code, .int .u32 x.ses, .int .u32 0, .int .i64 0, .slice none 0 0] 63)).drew))
  have RU := hid K1.out.size
  clear dd c0 c9
  change Exit.then _ _ Exit.normal _ (w1.alloc (.cells #[.int .i64 0, .int .u32 x.p.code, .int .u32 x.ses, .int .u32 0, .int .i64 0, .slice none 0 0] 63)).drew
  have hU : Hid (Has (w1.alloc (.cells #[.int .i64 0, .int .u32 x.p.code, .int .u32 x.ses, .int .u32 0, .int .i64 0, .slice none 0 0] 63)).drew w1.heap.size 63 [.int .i64 0, .int .u32 x.p.code, .int .u32 x.ses, .int .u32 0, .int .i64 0, .slice none 0 0]) := hU
  have K2 : Hid (Kept [] w (w1.alloc (.cells #[.int .i64 0, .int .u32 x.p.code, .int .u32 x.ses, .int .u32 0, .int .i64 0, .slice none 0 0] 63)).drew) := K2
  have H2 : Hid (HAt G (w1.alloc (.cells #[.int .i64 0, .int .u32 x.p.code, .int .u32 x.ses, .int .u32 0, .int .i64 0, .slice none 0 0] 63)).drew b d v g o lg k s x) := H2
  generalize (w1.alloc (.cells #[.int .i64 0, .int .u32 x.p.code, .int .u32 x.ses, .int .u32 0, .int .i64 0, .slice none 0 0] 63)).drew = w2 at hU K2 H2 ⊢
  generalize w1.heap.size = R at hU RU ⊢
  have c8 := H2.out.top.cell 8 (v := .int .i64 x.state) rfl
  rw [ST.out] at c8
  have y0 := hU.out.cell 0 rfl
  have y1 := hU.out.cell 1 rfl
  have y2 := hU.out.cell 2 rfl
  have y3 := hU.out.cell 3 rfl
  have y4 := hU.out.cell 4 rfl
  have y5 := hU.out.cell 5 rfl
  have z0 := hU.out.free 0
  have z5 := hU.out.free 5
  go_wp2_with fail
  refine (bytes_call (sigN x.p : Nat) w2).mono ?_
  rintro e w3 ⟨v3, rfl, k3, m3⟩
  have hU3 := hid (k3.has hU.out (by simp))
  have K3 := hid (K2.out.trans k3)
  obtain ⟨p3, c3, rfl⟩ := m3.shape
  have M3 := hid (show Made w2 w3 (.slice p3 4 c3) (sigB x.p) from m3)
  have HN := hid (Kept.refl [R] w3)
  clear k3 m3 y0 y1 y2 y3 y4 y5 z0 z5 c8
  have y0 := hU3.out.cell 0 rfl
  have y1 := hU3.out.cell 1 rfl
  have y2 := hU3.out.cell 2 rfl
  have y3 := hU3.out.cell 3 rfl
  have y4 := hU3.out.cell 4 rfl
  have y5 := hU3.out.cell 5 rfl
  have z0 := hU3.out.free 0
  have z5 := hU3.out.free 5
  rw [show (w4 ((sigN x.p : Nat) : Int)).length = 4 from rfl]
  go_wp2_with fail
  have kk := ((Kept.refl [R] w3).set ⟨R, 0, none⟩ (.int .i64 2) (by simp)).set ⟨R, 5, none⟩ (.slice p3 4 c3) (by simp)
  have MM := hid (M3.out.kept kk (fun bb hbb => by simp only [List.mem_singleton]; exact Nat.ne_of_gt (Nat.lt_of_lt_of_le hU.out.lt (M3.out.2 bb hbb))))
  have KK := hid (K3.out.fresh kk (fun i hi hl => by simp only [List.mem_singleton] at hi; subst hi; exact absurd hl (Nat.not_lt.2 RU.out)))
  clear kk
  refine (UEnc.encode_call ⟨2, x.p.code, x.ses, 0, 0, sigB x.p⟩ (HX.out.law2 ST.out) (.slice p3 4 c3) _ MM.out.bytes (w4_by _)).mono ?_
  rintro e w5 ⟨v5, rfl, k5, m5⟩
  go_wp2_with fail
  go_ret
  exact ⟨v5, rfl, KK.out.trans k5, m5.1, fun i hi => Nat.le_trans KK.out.size (m5.2 i hi)⟩
set_option maxRecDepth 100000 in
theorem compose3 (hx : HOk x) (h1 : x.state = 3) (h : HAt G w b d v g o lg k s x) :
    Calls Tryz.prog 96 #[.pointer (some ⟨b, 0, none⟩)] w fun e w' => ∃ f, e = .returned f ∧ Kept [] w w' ∧ Made w w' f (frame ⟨3, x.p.code, x.ses, 0, 0, []⟩) := by
  have c0 := h.top.cell 0 (v := .int .u32 x.p.code) rfl
  have c1 := h.top.cell 1 (v := .int .i64 x.p.out) rfl
  have c2 := h.top.cell 2 (v := .int .i64 x.p.inn) rfl
  have c3 := h.top.cell 3 (v := .int .i64 x.p.watch) rfl
  have c4 := h.top.cell 4 (v := .int .u32 x.p.count) rfl
  have HH := hid h
  have HX := hid hx
  have ST := hid h1
  clear h hx h1
  go_enter Tryz.func96, Tryz.ntmps96
  go_wp2_with fail
  refine (signature_call x.p HX.out.p _).mono ?_
  rintro e w1 ⟨rfl, k1⟩
  go_wp2_with fail
  have H1 := hid (HH.out.nil k1)
  have K1 := hid k1
  clear c0 c1 c2 c3 c4 k1
  have c0 := H1.out.top.cell 0 (v := .int .u32 x.p.code) rfl
  have c9 := H1.out.top.cell 9 (v := .int .u32 x.ses) rfl
  have dd : w1.drew.cell? ⟨b, 0, none⟩ = some (.int .u32 x.p.code) ∧ w1.drew.cell? ⟨b, 9, none⟩ = some (.int .u32 x.ses) := ⟨c0, c9⟩
  go_region_held3 (fun w' => w'.cell? ⟨b, 0, none⟩ = some (.int .u32 x.p.code) ∧ w'.cell? ⟨b, 9, none⟩ = some (.int .u32 x.ses)) (first | with_reducible assumption | go_keep) (fail)
  have hU := hid ((Has.new w1 63 [.int .i64 0, .int .u32 x.p.code, .int .u32 x.ses, .int .u32 0, .int .i64 0, .slice none 0 0]).drew)
  have K2 := hid ((K1.out.alloc (.cells #[.int .i64 0, .int .u32 x.p.code, .int .u32 x.ses, .int .u32 0, .int .i64 0, .slice none 0 0] 63)).drew)
  have H2 := hid (H1.out.nil (((Kept.refl [] w1).alloc (.cells #[.int .i64 0, .int .u32 x.p.code, .int .u32 x.ses, .int .u32 0, .int .i64 0, .slice none 0 0] 63)).drew))
  have RU := hid K1.out.size
  clear dd c0 c9
  change Exit.then _ _ Exit.normal _ (w1.alloc (.cells #[.int .i64 0, .int .u32 x.p.code, .int .u32 x.ses, .int .u32 0, .int .i64 0, .slice none 0 0] 63)).drew
  have hU : Hid (Has (w1.alloc (.cells #[.int .i64 0, .int .u32 x.p.code, .int .u32 x.ses, .int .u32 0, .int .i64 0, .slice none 0 0] 63)).drew w1.heap.size 63 [.int .i64 0, .int .u32 x.p.code, .int .u32 x.ses, .int .u32 0, .int .i64 0, .slice none 0 0]) := hU
  have K2 : Hid (Kept [] w (w1.alloc (.cells #[.int .i64 0, .int .u32 x.p.code, .int .u32 x.ses, .int .u32 0, .int .i64 0, .slice none 0 0] 63)).drew) := K2
  have H2 : Hid (HAt G (w1.alloc (.cells #[.int .i64 0, .int .u32 x.p.code, .int .u32 x.ses, .int .u32 0, .int .i64 0, .slice none 0 0] 63)).drew b d v g o lg k s x) := H2
  generalize (w1.alloc (.cells #[.int .i64 0, .int .u32 x.p.code, .int .u32 x.ses, .int .u32 0, .int .i64 0, .slice none 0 0] 63)).drew = w2 at hU K2 H2 ⊢
  generalize w1.heap.size = R at hU RU ⊢
  have c8 := H2.out.top.cell 8 (v := .int .i64 x.state) rfl
  rw [ST.out] at c8
  have y0 := hU.out.cell 0 rfl
  have y1 := hU.out.cell 1 rfl
  have y2 := hU.out.cell 2 rfl
  have y3 := hU.out.cell 3 rfl
  have y4 := hU.out.cell 4 rfl
  have y5 := hU.out.cell 5 rfl
  have z0 := hU.out.free 0
  go_wp2_with fail
  have K3 := K2
  have hU3 := hU
  have kk := (Kept.refl [R] w2).set ⟨R, 0, none⟩ (.int .i64 3) (by simp)
  have KK := hid (K3.out.fresh kk (fun i hi hl => by simp only [List.mem_singleton] at hi; subst hi; exact absurd hl (Nat.not_lt.2 RU.out)))
  clear kk
  refine (UEnc.encode_call ⟨3, x.p.code, x.ses, 0, 0, []⟩ (HX.out.law3 ST.out) (.slice none 0 0) _ (bytes_none _) (by intro z hz; cases hz)).mono ?_
  rintro e w5 ⟨v5, rfl, k5, m5⟩
  go_wp2_with fail
  go_ret
  exact ⟨v5, rfl, KK.out.trans k5, m5.1, fun i hi => Nat.le_trans KK.out.size (m5.2 i hi)⟩
end HostC
end Go.Proofs.YtinaliblnihpbaaGreat
