/- Contracts: do of the laws; a device beside a tape. -/
import Derived.Test.YtddjkkmdcdiofaaTD
namespace Go.Proofs.Ytddjkkmdcdiofaa
open Go.RowKit Go.MapKept Go.ChangeMaps

theorem box_on {p : Nat} {r : Rp} {s : St} {o : POp} {w w1 : World} (hb : Below w.heap.size w w1) {e : Ending} {w' : World} (h : ReqPost p r s o w1 e w') : ReqPost p r s o w e w' := by
  obtain ⟨n, hn, he, r', hd, hs⟩ := h
  exact ⟨n, hn, he, r', hd, hs.after hb⟩
theorem ret_req {p : Nat} {r : Rp} {s : St} {o : POp} {w w' : World} {e : Ending} (h : ReqPost p r s o w e w') : ∃ v : Int, e = .returned (.int .i64 v) := by
  obtain ⟨n, hn, he, _⟩ := h
  exact ⟨_, he⟩
set_option maxRecDepth 100000 in
set_option maxHeartbeats 4000000 in
theorem ldo_any (p : Nat) (r : Rp) (s : St) (o : LOp) (w : World) (h : DV w p r s) (hn : okS o.nm) (ht : okS o.to) (hk1 : 1 ≤ o.k) (hk4 : o.k ≤ 4) (hr : RB w o.d o.bs) (hl : o.bs.length ≤ 1000000) (hL : s.ops.length ≤ 1000000) :
    Calls Try.prog 29 #[.pointer (some ⟨p, 0, none⟩), o.val] w (ReqPost p r s o.op w) := by
  obtain ⟨k, nm, to, ⟨A, n, c⟩, bs⟩ := o
  obtain rfl : bs.length = n := hr.1
  have HD : Hid (DV (w.alloc (.cells (vL k nm to (.slice A bs.length c)) 51)) p r s) := h.on (bel1 _ _)
  have HS : Hid (SB (w.alloc (.cells (vL k nm to (.slice A bs.length c)) 51)) A bs) := (hr.on (bel1 _ _)).src
  have Hn := Lib.hid hn
  have Ht := Lib.hid ht
  clear h hr hn ht
  simp only at hk1 hk4 hl Hn Ht
  unfold LOp.val
  simp only
  rcases (by omega : k = 1 ∨ k = 2 ∨ k = 3 ∨ k = 4) with rfl | rfl | rfl | rfl
  · go_enter Try.func29, Try.ntmps29
    go_wp2_with fail
    refine (Create_any p r s nm A c bs _ HD.out Hn.out HS.out hL (by omega)).mono ?_
    intro e w1 hq
    obtain ⟨v, rfl⟩ := ret_req hq
    have HQ := Lib.hid (box_on (bel1 w _) hq)
    clear hq
    go_wp2_with fail
    go_ret
    exact HQ.out
  · go_enter Try.func29, Try.ntmps29
    go_wp2_with fail
    refine (Append_any p r s nm A c bs _ HD.out Hn.out HS.out hL (by omega)).mono ?_
    intro e w1 hq
    obtain ⟨v, rfl⟩ := ret_req hq
    have HQ := Lib.hid (box_on (bel1 w _) hq)
    clear hq
    go_wp2_with fail
    go_ret
    exact HQ.out
  · go_enter Try.func29, Try.ntmps29
    go_wp2_with fail
    refine (Rename_any p r s nm to _ HD.out Hn.out Ht.out hL).mono ?_
    intro e w1 hq
    obtain ⟨v, rfl⟩ := ret_req hq
    have HQ := Lib.hid (box_on (bel1 w _) hq)
    clear hq
    go_wp2_with fail
    go_ret
    exact HQ.out
  · go_enter Try.func29, Try.ntmps29
    go_wp2_with fail
    refine (Delete_any p r s nm _ HD.out Hn.out hL).mono ?_
    intro e w1 hq
    obtain ⟨v, rfl⟩ := ret_req hq
    have HQ := Lib.hid (box_on (bel1 w _) hq)
    clear hq
    go_wp2_with fail
    go_ret
    exact HQ.out
theorem ldo_L {b p : Nat} {s : St} {w : World} {R : List (BD × List UInt8)} (o : LOp) (h : LDev b w p s R) (ho : o.Ok) (hr : RB w o.d o.bs) (hL : s.ops.length ≤ 1000000) : Calls Try.prog 29 #[.pointer (some ⟨p, 0, none⟩), o.val] w (ReqL b p s o.op w R) :=
  req_L (fun r hd => ldo_any p r s o w hd (names_ok _ ho.nm) (names_ok _ ho.to) ho.k1 ho.k4 hr (by have := ho.len; omega) hL) h
theorem rb_tape {w : World} {d : BD} {bs : List UInt8} {x N : Nat} (h : RB w d bs) (ht : Tp w x N) : blk d ≠ some x := by
  obtain ⟨A, c, a, L, hx, _⟩ := ht
  exact RB.ne_cell hx (by decide) h
/-- A device beside a tape that moves on. -/
theorem DV.tape {p x N : Nat} {w w' : World} {r : Rp} {s : St} (h : DV w p r s) (ht : Tp w x N) (hg : w.grownBy w' (some x)) : DV w' p r s := by
  obtain ⟨A, c, a, L, hx, _⟩ := ht
  have own : ∀ i, r.own p i → i ≠ x := by
    rintro i hi rfl
    rcases hi with rfl | rfl | rfl | e
    · exact absurd (IsB.type hx h.dev.cells) (by decide)
    · exact is_map h.dev.kept.1 hx
    · exact is_map h.dev.now.1 hx
    · obtain ⟨cur, hcur⟩ := row_is h.dev.pend e
      exact absurd (IsB.type hx hcur) (by decide)
  refine ⟨h.dev.ch (grown_ch hg []) (fun i hi => ⟨own i hi, by simp⟩) (fun d hd => ⟨fun g hg' e => ?_, by simp⟩), h.ok⟩
  rcases hd with ⟨e1, he, rfl⟩ | ⟨e1, he, rfl⟩ | ⟨e1, he, rfl⟩
  · exact RB.ne_cell hx (by decide) (h.dev.kept.2.1 e1 he) (by rw [hg', e])
  · exact RB.ne_cell hx (by decide) (h.dev.now.2.1 e1 he) (by rw [hg', e])
  · exact RB.ne_cell hx (by decide) (h.dev.ops e1 he).1 (by rw [hg', e])
theorem LDev.tape {b p x N : Nat} {w w' : World} {s : St} {R : List (BD × List UInt8)} (h : LDev b w p s R) (ht : Tp w x N) (hg : w.grownBy w' (some x)) : LDev b w' p s R := by
  obtain ⟨h0, r, h1, h2, h3⟩ := h
  refine ⟨Nat.le_trans h0 hg.size, r, h1.tape ht hg, h2, fun y hy => ⟨(h3 y hy).1.grown hg (fun e => ?_), (h3 y hy).2⟩⟩
  obtain ⟨A, c, a, L, hx, _⟩ := ht
  exact RB.ne_cell hx (by decide) (h3 y hy).1 e
end Go.Proofs.Ytddjkkmdcdiofaa
