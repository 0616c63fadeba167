/- The reference's device, as it lies; Files. -/
import Derived.Test.YtddjkkmdcdiofaaRE
import Derived.Test.YtddjkkmdcdiofaaCF
namespace Go.Proofs.Ytddjkkmdcdiofaa
open Go.RowKit Go.MapKept Go.ChangeMaps

theorem rdo_any (A : Option Addr) (c : Nat) (fs : List RFile) (o : LOp) (w : World) (h : FL w A c fs) (hl : fs.length ≤ 100000) (hr : RB w o.d o.bs) (hn : okS o.nm) (ht : okS o.to) (hbs : o.bs.length ≤ 4194304) (hx2 : ∀ x ∈ fs, x.bs.length ≤ 1073741824) (h1 : 1 ≤ o.k) (h4 : o.k ≤ 4) :
    Calls Try.prog 71 #[.slice A fs.length c, o.val] w (RDoPost fs o w) := by
  obtain ⟨k, nm, to, ⟨B, n, cc⟩, bs⟩ := o
  obtain rfl : bs.length = n := hr.1
  simp only at hn ht hbs h1 h4
  have hk : k = 1 ∨ k = 2 ∨ k = 3 ∨ k = 4 := by omega
  rcases hk with rfl | rfl | rfl | rfl
  · exact do1_any A c fs nm to B cc bs w h hl hr hn ht hbs
  · exact do2_any A c fs nm to B cc bs w h hl hr hn ht hbs hx2
  · exact do3_any A c fs nm to B cc bs w h hl hr hn ht hbs
  · exact do4_any A c fs nm to B cc bs w h hl hr hn ht hbs
/-- The operation's file is there, if it needs one. -/
def Does (f : FF) (o : LOp) : Prop := o.k = 2 ∨ o.k = 3 → (f o.nm).isSome = true
theorem do_apply {f : FF} {o : LOp} (h : Does f o) (h1 : 1 ≤ o.k) (h4 : o.k ≤ 4) (m : ByteArray) : doF f o m = applyF f o.op m := by
  obtain ⟨k, nm, to, d, bs⟩ := o
  simp only [Does] at h h1 h4
  have hk : k = 1 ∨ k = 2 ∨ k = 3 ∨ k = 4 := by omega
  rcases hk with rfl | rfl | rfl | rfl
  · simp [doF, LOp.op, applyF]
  · simp [doF, LOp.op, applyF, h (.inl rfl)]
  · by_cases e : nm = to
    · subst e
      simp [doF, LOp.op, applyF]
    · have e' : to ≠ nm := Ne.symm e
      simp [doF, LOp.op, applyF, h (.inr rfl), e, e', fset_eq]
      by_cases e1 : to = m
      · subst e1
        simp [e]
      · simp [e1]
  · simp [doF, LOp.op, applyF]
theorem pl_nodup {fs : List RFile} (hs : SortedF fs) : ((pl fs).map (·.1)).Nodup := by
  have : fs.Pairwise (fun a b => a.nm ≠ b.nm) := hs.imp (fun h => blt_ne h)
  simpa [pl, List.Nodup, List.pairwise_map, Function.comp_def] using this
theorem pl_cnt {fs : List RFile} (hs : SortedF fs) {f : FF} (hf : ∀ n, asc (pl fs) n = f n) : Cnt f fs.length := by
  refine ⟨(pl fs).map (·.1), pl_nodup hs, fun m => ?_, by simp [pl]⟩
  rw [← hf m]
  constructor
  · intro hm
    obtain ⟨c, hc, rfl⟩ := List.mem_map.1 hm
    rw [asc_mem (pl_nodup hs) hc]
    rfl
  · intro hm
    cases ha : asc (pl fs) m with
    | none => rw [ha] at hm; cases hm
    | some v => exact List.mem_map.2 ⟨_, mem_of_asc ha, rfl⟩
theorem pl_small {fs : List RFile} (hs : SortedF fs) {f : FF} (hf : ∀ n, asc (pl fs) n = f n) (h : Small f) : fs.length ≤ 256 ∧ ∀ x ∈ fs, x.bs.length ≤ 4194304 := by
  obtain ⟨h1, c, h2, h3⟩ := h
  refine ⟨by rw [(pl_cnt hs hf).uniq h3]; exact h2, fun x hx => h1 x.nm x.bs ?_⟩
  rw [← hf]
  exact asc_mem (pl_nodup hs) (c := (x.nm, x.bs)) (List.mem_map.2 ⟨x, hx, rfl⟩)
def encL (o : LOp) : List Value := [.int .i64 o.k, .string o.nm, .string o.to, .slice o.d.A o.d.len o.d.cap]
theorem encL_len (o : LOp) : (encL o).length = 4 := rfl
theorem encL_one (l : List LOp) : ∀ u ∈ l.flatMap encL, u.oneCell' = true := by
  intro u hu
  obtain ⟨x, _, hx⟩ := List.mem_flatMap.1 hu
  simp only [encL, List.mem_cons, List.not_mem_nil, or_false] at hx
  rcases hx with rfl | rfl | rfl | rfl <;> rfl
/-- The reference's device, as a value. -/
structure RS where
  FA : Option Addr
  FC : Nat
  fs : List RFile
  OA : Option Addr
  OC : Nat
  os : List LOp
  dn : Bool
  f : Int
abbrev vR (F O : Value) (dn : Bool) (f : Int) : Array Value := #[F, O, .bool dn, .int .i64 f]
abbrev RS.F (r : RS) : Value := .slice r.FA r.fs.length r.FC
abbrev RS.O (r : RS) : Value := .slice r.OA r.os.length r.OC
abbrev RS.cells (r : RS) : Array Value := vR r.F r.O r.dn r.f
/-- As it lies. -/
structure RM (w : World) (r : RS) : Prop where
  fl : FL w r.FA r.FC r.fs
  row : w.ownsRow 0 51 4 r.O r.os.length (r.os.flatMap encL)
  rb : ∀ o ∈ r.os, RB w o.d o.bs
  ok : ∀ o ∈ r.os, o.Ok
/-- As the device is. -/
structure RP (r : RS) (s : St) : Prop where
  K : ∀ m, asc (pl r.fs) m = s.K m
  ops : s.ops = r.os.map LOp.op
  dn : r.dn = s.dn
  f : r.f = s.f
  ok : Ok s
  ex : ∀ k o, r.os[k]? = some o → Does (foldK s k) o
  len : r.os.length ≤ 1000
theorem RM.on {w w' : World} {r : RS} (h : RM w r) (hb : Below w.heap.size w w') : RM w' r := ⟨h.fl.on hb, own_on h.row hb, fun o ho => (h.rb o ho).on hb, h.ok⟩
theorem rowL {w : World} {r : RS} (h : RM w r) {k : Nat} {o : LOp} (hk : r.os[k]? = some o) :
    ∃ g, r.OA = some ⟨g, 0, none⟩ ∧ g < w.heap.size ∧ w.cell? ⟨g, k * 4, none⟩ = some (.int .i64 o.k) ∧ w.cell? ⟨g, k * 4 + 1, none⟩ = some (.string o.nm) ∧ w.cell? ⟨g, k * 4 + 2, none⟩ = some (.string o.to) ∧ w.cell? ⟨g, k * 4 + 3, none⟩ = some (.slice o.d.A o.d.len o.d.cap) := by
  have hlt := (List.getElem?_eq_some_iff.1 hk).1
  obtain ⟨g, cap, hv, _, hg⟩ := h.row.form (by omega)
  injection hv with h1 h2 h3
  have key : ∀ j, j < 4 → w.cell? ⟨g, k * 4 + j, none⟩ = (encL o)[j]? := fun j hj => by
    have hkj : k * 4 + j < r.os.length * 4 := by omega
    have hrow := h.row
    unfold RS.O at hrow
    rw [h1] at hrow
    rw [hrow.cellAt _ hkj, flat_at encL_len o r.os k j hlt hj, List.getD_eq_getElem?_getD, hk]
    rfl
  exact ⟨g, h1, hg, key 0 (by omega), key 1 (by omega), key 2 (by omega), key 3 (by omega)⟩
theorem RP.at_ {r : RS} {s : St} (h : RP r s) {k : Nat} {o : LOp} (hk : r.os[k]? = some o) : s.ops[k]? = some o.op := by
  rw [h.ops, List.getElem?_map, hk]
  rfl
/-- The files after the first k operations, in memory. -/
def FoldL (r : RS) (s : St) (k : Nat) (w wr : World) (A : Option Addr) (c : Nat) (fs' : List RFile) : Prop := FL wr A c fs' ∧ (∀ m, asc (pl fs') m = foldK s k m) ∧ NewF w.heap.size r.fs fs'
/-- One round of Files. -/
theorem fold_round {r : RS} {s : St} {k : Nat} {w wr : World} {A : Option Addr} {c : Nat} {fs' : List RFile} {o : LOp} (hm : RM w r) (hp : RP r s) (hb : Below w.heap.size w wr) (h : FoldL r s k w wr A c fs') (ho : r.os[k]? = some o) :
    Calls Try.prog 71 #[.slice A fs'.length c, o.val] wr (fun e w' => ∃ A2 c2 fs2, e = .returned (.slice A2 fs2.length c2) ∧ FoldL r s (k + 1) w w' A2 c2 fs2 ∧ Below wr.heap.size wr w') := by
  have hmem := List.mem_of_getElem? ho
  have hok := hm.ok o hmem
  have hsm := pl_small h.1.sort h.2.1 (hp.ok.pre k)
  refine (rdo_any A c fs' o wr h.1 (by omega) ((hm.rb o hmem).on hb) (names_ok _ hok.nm) (names_ok _ hok.to) (by have := hok.len; omega) (fun x hx => by have := hsm.2 x hx; omega) hok.k1 hok.k4).mono ?_
  rintro e w' ⟨A2, c2, fs2, he, hf, ha, hn, hb2⟩
  refine ⟨A2, c2, fs2, he, ⟨hf, fun m => ?_, h.2.2.trans hn hb.size⟩, hb2⟩
  have hfun : asc (pl fs') = foldK s k := funext h.2.1
  rw [ha m, hfun, do_apply (hp.ex k o ho) hok.k1 hok.k4, foldK_succ s (hp.at_ ho)]
def FilesPost (r : RS) (s : St) (w : World) (e : Ending) (w' : World) : Prop := ∃ A c fs', e = .returned (.slice A fs'.length c) ∧ FL w' A c fs' ∧ (∀ m, asc (pl fs') m = s.now m) ∧ NewF w.heap.size r.fs fs' ∧ Below w.heap.size w w'
set_option maxRecDepth 100000 in
set_option maxHeartbeats 4000000 in
theorem Files_any (r : RS) (s : St) (w : World) (hm : RM w r) (hp : RP r s) : Calls Try.prog 62 #[.agg r.cells] w (FilesPost r s w) := by
  have M0 := Lib.hid hm
  have P0 := Lib.hid hp
  have hlen := hp.len
  have I0 : Hid (IsB (w.alloc (.cells r.cells 68)) w.heap.size 68 r.cells) := IsB.new _ _ _
  have B0 : Hid (Below w.heap.size w (w.alloc (.cells r.cells 68))) := bel1 _ _
  have L0 : Hid (FoldL r s 0 w (w.alloc (.cells r.cells 68)) r.FA r.FC r.fs) := ⟨hm.fl.on (bel1 _ _), hp.K, NewF.refl _ _⟩
  clear hm hp
  go_enter Try.func62, Try.ntmps62
  go_wp2_with fail
  go_loopw [3, 4] (fun vl vi wr => ∃ (k : Nat) (A : Option Addr) (c : Nat) (fs' : List RFile), k ≤ r.os.length ∧ vi = .int .i64 k ∧ vl = .slice A fs'.length c ∧ FoldL r s k w wr A c fs' ∧ IsB wr w.heap.size 68 r.cells ∧ Below w.heap.size w wr) (fun _ vi _ => r.os.length - (intOf vi).toNat)
  case atStart => exact ⟨0, r.FA, r.FC, r.fs, by omega, rfl, rfl, L0.out, I0.out, B0.out⟩
  case round =>
    obtain ⟨k, A, c, fs', hk, rfl, rfl, hL, hI, hB⟩ := hrel
    have L1 := Lib.hid hL
    have I1 := Lib.hid hI
    have B1 := Lib.hid hB
    have q1 : wr.cell? ⟨w.heap.size, 1, none⟩ = some (.slice r.OA r.os.length r.OC) := I1.out.cell 1
    clear hL hI hB
    by_cases hlt : k < r.os.length
    · obtain ⟨o, ho⟩ : ∃ o, r.os[k]? = some o := ⟨_, List.getElem?_eq_getElem hlt⟩
      obtain ⟨g, hg, hgl, c0, c1, c2, c3⟩ := rowL (M0.out.on B1.out) ho
      rw [hg] at q1
      have HC := Lib.hid (fold_round M0.out P0.out B1.out L1.out ho)
      clear ho hg
      go_wp2_with fail
      refine HC.out.mono ?_
      rintro e w2 ⟨A2, c2, fs2, rfl, hL2, hb2⟩
      have L2 := Lib.hid hL2
      have I2 : Hid (IsB w2 w.heap.size 68 r.cells) := I1.out.on hb2
      have B2 : Hid (Below w.heap.size w w2) := B1.out.trans (hb2.mono B1.out.size)
      clear hL2 hb2
      go_wp2_with fail
      go_roundw
      case rel => exact ⟨k + 1, A2, c2, fs2, by omega, by go_num, rfl, L2.out, I2.out, B2.out⟩
      case measure => simp [intOf]; omega
    · obtain rfl : k = r.os.length := by omega
      go_wp2_with fail
      go_ret
      refine ⟨A, c, fs', rfl, L1.out.1, fun m => ?_, L1.out.2.2, B1.out⟩
      have := L1.out.2.1 m
      rwa [show r.os.length = s.ops.length by rw [P0.out.ops]; simp, foldK_all] at this
end Go.Proofs.Ytddjkkmdcdiofaa
