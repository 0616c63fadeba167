/- Walks of laws: Names. -/
import Derived.Test.YtddjkkmdcdiofaaDF
namespace Go.Proofs.Ytddjkkmdcdiofaa
open Go.RowKit Go.MapKept Go.ChangeMaps

def Gives (v : Value) (w : World) (e : Ending) (w' : World) : Prop := e = .returned v ∧ Below w.heap.size w w'
theorem req_no {s : St} {n : Nat} {o : POp} {v : Int} (hg : gate s n o = v) (hv : v ≠ 0) : reqE s n o = v ∧ reqS s n o = s := by
  subst hg
  simp [reqE, reqS, hv]
theorem read_bad {s : St} {nm : ByteArray} {v : Int} (hv : readE s nm = v) (h : v ≠ 0) : readE s nm = v ∧ readB s nm = [] := ⟨hv, by rw [readB, hv, if_neg h]⟩
set_option maxRecDepth 100000 in
set_option maxHeartbeats 8000000 in
theorem law7 (nm : ByteArray) (A : Option Addr) (c : Nat) (bs : List UInt8) (w : World) (hn : okS nm) (hs : SB w A bs) (hl : bs.length ≤ 9223372036854775807) :
    Calls Try.prog 7 #[.string nm, .slice A bs.length c] w (Gives (.bool true) w) := by
  have Hn := Lib.hid hn
  have Hs := Lib.hid hs
  clear hn hs
  by_cases hbig : 100 < bs.length
  · go_enter Try.func7, Try.ntmps7
    go_wp2_with fail
    go_ret
    exact ⟨rfl, Below.refl _ _⟩
  · cases hnb : nameB nm with
    | false =>
      have Hnb := Lib.hid hnb
      clear hnb
      go_enter Try.func7, Try.ntmps7
      go_wp2_with fail
      refine (New_any _).mono ?_
      rintro e w1 ⟨rfl, hd, hb⟩
      have D_w1 : Hid (LDev w.heap.size w1 (w.heap.size + 2) St.new) := LDev.new hd hb
      have B_w1 : Hid (Below w.heap.size w w1) := (Below.refl w.heap.size w).trans (hb.mono (Below.refl w.heap.size w).size)
      clear hd hb
      go_wp2_with fail
      refine (known_any _).mono ?_
      rintro e w2 ⟨rfl, hb⟩
      have D_w2 : Hid (LDev w.heap.size w2 (w.heap.size + 2) (St.new) []) := D_w1.out.on hb
      have B_w2 : Hid (Below w.heap.size w w2) := B_w1.out.trans (hb.mono B_w1.out.size)
      clear hb
      go_wp2_with fail
      refine (rName_any nm _ Hn.out).mono ?_
      rintro e w0 ⟨he, hw⟩
      rw [Hnb.out] at he
      subst hw; subst he
      go_wp2_with fail
      refine (Read_L nm D_w2.out Hn.out).mono ?_
      rintro e w3 ⟨dra, he, hr, _, hb⟩
      rw [(read_bad (s := St.new) (nm := nm) (v := 300) (by simp [readE, checkP, St.new, Hnb.out]) (by decide)).1] at he; rw [(read_bad (s := St.new) (nm := nm) (v := 300) (by simp [readE, checkP, St.new, Hnb.out]) (by decide)).2] at hr; subst he
      have ra_w3 : Hid (RB w3 dra ([])) := hr
      have D_w3 : Hid (LDev w.heap.size w3 (w.heap.size + 2) (St.new) []) := D_w2.out.on hb
      have B_w3 : Hid (Below w.heap.size w w3) := B_w2.out.trans (hb.mono B_w2.out.size)
      clear hr hb
      unfold vB
      go_wp2_with fail
      refine (Create_L nm A c bs D_w3.out Hn.out (Hs.out.on_lt B_w3.out) (by decide) (by omega)).mono ?_
      rintro e w4 ⟨n, hn, he, hd, hb⟩
      obtain ⟨e1, e2⟩ := req_no (s := St.new) (n := n) (o := ⟨.create, nm, ByteArray.empty, bs, true⟩) (v := 300) (by simp [gate, St.new, Hnb.out]) (by decide)
      rw [e1] at he; rw [e2] at hd; subst he
      have D_w4 : Hid (LDev w.heap.size w4 (w.heap.size + 2) (St.new) []) := hd
      have B_w4 : Hid (Below w.heap.size w w4) := B_w3.out.trans hb
      clear hd hb e1 e2 hn
      go_wp2_with fail
      refine (Append_L nm A c bs D_w4.out Hn.out (Hs.out.on_lt B_w4.out) (by decide) (by omega)).mono ?_
      rintro e w5 ⟨n, hn, he, hd, hb⟩
      obtain ⟨e1, e2⟩ := req_no (s := St.new) (n := n) (o := ⟨.add, nm, ByteArray.empty, bs, true⟩) (v := 300) (by simp [gate, St.new, Hnb.out]) (by decide)
      rw [e1] at he; rw [e2] at hd; subst he
      have D_w5 : Hid (LDev w.heap.size w5 (w.heap.size + 2) (St.new) []) := hd
      have B_w5 : Hid (Below w.heap.size w w5) := B_w4.out.trans hb
      clear hd hb e1 e2 hn
      go_wp2_with fail
      refine (Delete_L nm D_w5.out Hn.out (by decide)).mono ?_
      rintro e w6 ⟨n, hn, he, hd, hb⟩
      obtain ⟨e1, e2⟩ := req_no (s := St.new) (n := n) (o := ⟨.remove, nm, ByteArray.empty, [], false⟩) (v := 300) (by simp [gate, St.new, Hnb.out]) (by decide)
      rw [e1] at he; rw [e2] at hd; subst he
      have D_w6 : Hid (LDev w.heap.size w6 (w.heap.size + 2) (St.new) []) := hd
      have B_w6 : Hid (Below w.heap.size w w6) := B_w5.out.trans hb
      clear hd hb e1 e2 hn
      go_wp2_with fail
      refine (Rename_L nm nA D_w6.out Hn.out okA (by decide)).mono ?_
      rintro e w7 ⟨n, hn, he, hd, hb⟩
      obtain ⟨e1, e2⟩ := req_no (s := St.new) (n := n) (o := ⟨.rename, nm, nA, [], false⟩) (v := 300) (by simp [gate, St.new, Hnb.out]) (by decide)
      rw [e1] at he; rw [e2] at hd; subst he
      have D_w7 : Hid (LDev w.heap.size w7 (w.heap.size + 2) (St.new) []) := hd
      have B_w7 : Hid (Below w.heap.size w w7) := B_w6.out.trans hb
      clear hd hb e1 e2 hn
      go_wp2_with fail
      refine (Rename_L nA nm D_w7.out okA Hn.out (by decide)).mono ?_
      rintro e w8 ⟨n, hn, he, hd, hb⟩
      obtain ⟨e1, e2⟩ := req_no (s := St.new) (n := n) (o := ⟨.rename, nA, nm, [], false⟩) (v := 300) (by simp [gate, St.new, Hnb.out]) (by decide)
      rw [e1] at he; rw [e2] at hd; subst he
      have D_w8 : Hid (LDev w.heap.size w8 (w.heap.size + 2) (St.new) []) := hd
      have B_w8 : Hid (Below w.heap.size w w8) := B_w7.out.trans hb
      clear hd hb e1 e2 hn
      go_wp2_with fail
      refine (Flip_L nm 0 0 D_w8.out Hn.out (by decide)).mono ?_
      rintro e w9 ⟨he, hd, hb⟩
      have e1 : flipE St.new nm 0 0 = 300 := by simp [flipE, Hnb.out]
      rw [flipS, e1, if_neg (by decide)] at hd; rw [e1] at he
      subst he
      have D_w9 : Hid (LDev w.heap.size w9 (w.heap.size + 2) (St.new) []) := hd
      have B_w9 : Hid (Below w.heap.size w w9) := B_w8.out.trans hb
      clear hd hb
      go_wp2_with fail
      go_ret
      exact ⟨rfl, B_w9.out⟩
    | true =>
      have Hnb := Lib.hid hnb
      clear hnb
      go_enter Try.func7, Try.ntmps7
      go_wp2_with fail
      refine (New_any _).mono ?_
      rintro e w1 ⟨rfl, hd, hb⟩
      have D_w1 : Hid (LDev w.heap.size w1 (w.heap.size + 2) St.new) := LDev.new hd hb
      have B_w1 : Hid (Below w.heap.size w w1) := (Below.refl w.heap.size w).trans (hb.mono (Below.refl w.heap.size w).size)
      clear hd hb
      go_wp2_with fail
      refine (known_any _).mono ?_
      rintro e w2 ⟨rfl, hb⟩
      have D_w2 : Hid (LDev w.heap.size w2 (w.heap.size + 2) (St.new) []) := D_w1.out.on hb
      have B_w2 : Hid (Below w.heap.size w w2) := B_w1.out.trans (hb.mono B_w1.out.size)
      clear hb
      go_wp2_with fail
      refine (rName_any nm _ Hn.out).mono ?_
      rintro e w0 ⟨he, hw⟩
      rw [Hnb.out] at he
      subst hw; subst he
      go_wp2_with fail
      refine (Append_L nm A c bs D_w2.out Hn.out (Hs.out.on_lt B_w2.out) (by decide) (by omega)).mono ?_
      rintro e w3 ⟨n, hn, he, hd, hb⟩
      obtain ⟨e1, e2⟩ := req_no (s := St.new) (n := n) (o := ⟨.add, nm, ByteArray.empty, bs, true⟩) (v := 301) (by simp [gate, St.new, St.now, Hnb.out]) (by decide)
      rw [e1] at he; rw [e2] at hd; subst he
      have D_w3 : Hid (LDev w.heap.size w3 (w.heap.size + 2) (St.new) []) := hd
      have B_w3 : Hid (Below w.heap.size w w3) := B_w2.out.trans hb
      clear hd hb e1 e2 hn
      go_wp2_with fail
      refine (Delete_L nm D_w3.out Hn.out (by decide)).mono ?_
      rintro e w4 ⟨n, hn, he, hd, hb⟩
      obtain ⟨e1, e2⟩ := req_no (s := St.new) (n := n) (o := ⟨.remove, nm, ByteArray.empty, [], false⟩) (v := 301) (by simp [gate, St.new, St.now, Hnb.out]) (by decide)
      rw [e1] at he; rw [e2] at hd; subst he
      have D_w4 : Hid (LDev w.heap.size w4 (w.heap.size + 2) (St.new) []) := hd
      have B_w4 : Hid (Below w.heap.size w w4) := B_w3.out.trans hb
      clear hd hb e1 e2 hn
      go_wp2_with fail
      refine (Rename_L nm nA D_w4.out Hn.out okA (by decide)).mono ?_
      rintro e w5 ⟨n, hn, he, hd, hb⟩
      obtain ⟨e1, e2⟩ := req_no (s := St.new) (n := n) (o := ⟨.rename, nm, nA, [], false⟩) (v := 301) (by simp [gate, St.new, St.now, Hnb.out, show nameB nA = true by decide +kernel]) (by decide)
      rw [e1] at he; rw [e2] at hd; subst he
      have D_w5 : Hid (LDev w.heap.size w5 (w.heap.size + 2) (St.new) []) := hd
      have B_w5 : Hid (Below w.heap.size w w5) := B_w4.out.trans hb
      clear hd hb e1 e2 hn
      go_wp2_with fail
      refine (Create_L nm A c bs D_w5.out Hn.out (Hs.out.on_lt B_w5.out) (by decide) (by omega)).mono ?_
      rintro e w6 ⟨n, hn, he, hd, hb⟩
      obtain ⟨e1, e2⟩ := req_ok (s := St.new) (n := n) (o := ⟨.create, nm, ByteArray.empty, bs, true⟩) (gate_create (nm := nm) (bs := bs) rfl Hnb.out (by omega) (.inr (by have := hn.uniq Cnt.none; omega))) rfl
      rw [e1] at he; rw [e2] at hd; subst he
      have D_w6 : Hid (LDev w.heap.size w6 (w.heap.size + 2) ({ (St.new : St) with ops := (St.new : St).ops ++ [⟨.create, nm, ByteArray.empty, bs, true⟩] }) []) := hd
      have B_w6 : Hid (Below w.heap.size w w6) := B_w5.out.trans hb
      clear hd hb e1 e2 hn
      go_wp2_with fail
      refine (Read_L nm D_w6.out Hn.out).mono ?_
      rintro e w7 ⟨dra, he, hr, _, hb⟩
      rw [(readE_ok (s := { (St.new : St) with ops := (St.new : St).ops ++ [⟨.create, nm, ByteArray.empty, bs, true⟩] }) (nm := nm) (v := bs) rfl Hnb.out (by simp [St.now, St.new, applyF, FF.set])).1] at he; rw [(readE_ok (s := { (St.new : St) with ops := (St.new : St).ops ++ [⟨.create, nm, ByteArray.empty, bs, true⟩] }) (nm := nm) (v := bs) rfl Hnb.out (by simp [St.now, St.new, applyF, FF.set])).2] at hr; subst he
      have ra_w7 : Hid (RB w7 dra (bs)) := hr
      have D_w7 : Hid (LDev w.heap.size w7 (w.heap.size + 2) ({ (St.new : St) with ops := (St.new : St).ops ++ [⟨.create, nm, ByteArray.empty, bs, true⟩] }) []) := D_w6.out.on hb
      have B_w7 : Hid (Below w.heap.size w w7) := B_w6.out.trans (hb.mono B_w6.out.size)
      clear hr hb
      unfold vB
      have v1 := conv_rb ra_w7.out
      have v2 := conv_str (Hs.out.on_lt B_w7.out) c
      go_wp2_with fail
      go_ret
      exact ⟨rfl, B_w7.out⟩
theorem law7F (nm : ByteArray) (A : Option Addr) (len c : Nat) (bs : List UInt8) (e : bs.length = len) (w : World) (hn : okS nm) (hs : SB w A bs) (hl : len ≤ 9223372036854775807) :
    Calls Try.prog 7 #[.string nm, .slice A len c] w (Gives (.bool true) w) := by
  subst e
  exact law7 nm A c bs w hn hs hl
end Go.Proofs.Ytddjkkmdcdiofaa
