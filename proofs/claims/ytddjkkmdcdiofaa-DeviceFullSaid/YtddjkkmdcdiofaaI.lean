/- Contracts: add. -/
import Derived.Test.YtddjkkmdcdiofaaH
namespace Go.Proofs.Ytddjkkmdcdiofaa
open Go.RowKit Go.MapKept Go.ChangeMaps

theorem AppB.ch {w w' : World} {d d' : BD} {bs : List UInt8} (h : AppB w d bs d' w') : Ch w w' (fun _ => False) (room d) := by
  obtain ⟨_, ⟨_, _, _, hc⟩ | ⟨_, _, _, hb⟩⟩ := h
  · exact hc
  · exact Ch.below hb _ _
theorem Ch.of_drew {w w' : World} {M : Nat → Prop} {G : List (Nat × Nat)} (h : Ch w.drew w' M G) : Ch w w' M G := ⟨h.os, h.tape, h.output, h.size, h.block, h.bytes⟩
theorem RB.room {w : World} {d : BD} {bs : List UInt8} (h : RB w d bs) {p : Nat × Nat} (hp : p ∈ Ytddjkkmdcdiofaa.room d) : ∃ cur, IsB w p.1 5 cur := by
  obtain ⟨h1, _, _⟩ := mem_room.1 hp
  cases hA : d.A with
  | none => simp [blk, hA] at h1
  | some ad =>
    obtain ⟨g, cur, rfl, hg, _⟩ := h.2.2.2 ad hA
    simp [blk, hA] at h1
    subst h1
    exact ⟨cur, hg⟩
theorem IsB.type {w : World} {g : Nat} {t t' : TypeId} {cs cs' : Array Value} (h : IsB w g t cs) (h' : IsB w g t' cs') : t = t' := by
  have e : some (Obj.cells cs t (0, 0)) = some (Obj.cells cs' t' (0, 0)) := h.symm.trans h'
  injection e with e
  injection e
theorem box_kept {w w' : World} {d : BD} {bs : List UInt8} {g : Nat} {cs : Array Value} (hc : Ch w w' (fun _ => False) (room d)) (hr : RB w.drew d bs) (h : IsB w g 88 cs) : IsB w' g 88 cs :=
  (hc.block g h.lt (fun h => h) (fun p hp e => by obtain ⟨cur, hcur⟩ := hr.room hp; rw [e] at hcur; exact absurd (IsB.type hcur h) (by decide))).trans h
/-- The file of that name, or none. -/
def Of (E : Files) (nm : ByteArray) (v : En) : Prop := v = zeroE ∨ (nm, v) ∈ E
theorem Of.rb {w : World} {b : Nat} {E : Files} (h : FM w b E) {nm : ByteArray} {v : En} (hv : Of E nm v) : RB w v.1 v.2 := by
  rcases hv with rfl | hi
  · exact RB.zero _
  · exact h.2.1 _ hi
theorem Of.own {w : World} {b : Nat} {E : Files} (h : FM w b E) {nm : ByteArray} {v : En} (hv : Of E nm v) {c : ByteArray × En} (hc : c ∈ E) {g : Nat} (h1 : blk c.2.1 = some g) (h2 : blk v.1 = some g) : c = (nm, v) := by
  rcases hv with rfl | hi
  · cases h2
  · exact FM.own h.2.2 hc hi h1 h2
theorem FM.app {w w' : World} {b : Nat} {E : Files} (h : FM w b E) {nm : ByteArray} {v : En} (hv : Of E nm v) (hc : Ch w w' (fun _ => False) (room v.1)) : FM w' b E := by
  refine h.kept (hc.block b h.1.lt (fun h => h) (fun p hp e => ?_)) (fun e he hr => hr.ch hc (fun _ _ h => h) (fun p hp hb => ?_))
  · obtain ⟨cur, hcur⟩ := (hv.rb h).room hp
    rw [e] at hcur
    exact is_map h.1 hcur
  · obtain ⟨m1, m2, _⟩ := mem_room.1 hp
    rw [hv.own h he hb m1, m2]
    exact Nat.le_refl _
theorem Ch.wide {w w' : World} {b : Nat} {E : Files} (h : FM w b E) {nm : ByteArray} {v : En} (hv : Of E nm v) {M : Nat → Prop} (hc : Ch w w' (fun _ => False) (room v.1)) : Ch w w' M (rooms E) := by
  refine hc.mono (fun _ h => h.elim) (fun p hp => ?_) (fun p hp q hq e => ?_)
  · rcases hv with rfl | hi
    · cases hp
    · exact mem_rooms.2 ⟨_, hi, mem_room.1 hp⟩
  · obtain ⟨m1, m2, _⟩ := mem_room.1 hq
    obtain ⟨c, hc, c1, c2, _⟩ := mem_rooms.1 hp
    have := hv.own h hc c1 (by rw [← e]; exact m1)
    subst this
    exact Prod.ext e (by rw [m2, c2])

set_option maxRecDepth 100000 in
set_option maxHeartbeats 4000000 in
theorem add_any (b : Nat) (E : Files) (run : Value) (nm to : ByteArray) (A : Option Addr) (c : Nat) (tears : Bool) (bs : List UInt8) (w : World) (h : FM w b E) (hn : okS nm) (hd : RB w ⟨A, bs.length, c⟩ bs) (hl : ((asc (plain E) nm).getD []).length + bs.length ≤ 1099511627776) :
    Calls Try.prog 53 #[.map (some b), .agg #[run, .string nm, .string to, .slice A bs.length c, .bool tears]] w (OpPost b E (setL (plain E) nm ((asc (plain E) nm).getD [] ++ bs)) w) := by
  obtain ⟨v, Hv⟩ : ∃ v, Hid ((asc E nm).getD zeroE = v) := ⟨_, rfl⟩
  have hpv : (asc (plain E) nm).getD [] = v.2 := by
    rw [asc_plain, ← Hv.out]
    cases asc E nm <;> rfl
  have HOf : Hid (Of E nm v) := by
    have := Hv.out
    cases ha : asc E nm with
    | none => rw [ha] at this; exact .inl this.symm
    | some u => rw [ha] at this; right; rw [← this]; exact mem_of_asc ha
  rw [hpv] at hl ⊢
  have H := Lib.hid h
  have Hd := Lib.hid hd
  have Hn := Lib.hid hn
  have hblt := h.1.lt
  clear h hd hn hpv
  go_enter Try.func53, Try.ntmps53
  go_wp2_with fail
  have Box : Hid (IsB (w.alloc (.cells #[run, .string nm, .string to, .slice A bs.length c, .bool tears] 88)) w.heap.size 88 #[run, .string nm, .string to, .slice A bs.length c, .bool tears]) := IsB.new _ _ _
  have HW : Hid (FM (w.alloc (.cells #[run, .string nm, .string to, .slice A bs.length c, .bool tears] 88)) b E) := H.out.on (bel1 _ _)
  have HS : Hid (SB (w.alloc (.cells #[run, .string nm, .string to, .slice A bs.length c, .bool tears] 88)) A bs) := (Hd.out.on (bel1 _ _)).src
  have hs0 : w.heap.size + 1 = (w.alloc (.cells #[run, .string nm, .string to, .slice A bs.length c, .bool tears] 88)).heap.size := by simp
  have HB0 : Hid (Below w.heap.size w (w.alloc (.cells #[run, .string nm, .string to, .slice A bs.length c, .bool tears] 88))) := bel1 _ _
  have c1 : (w.alloc (.cells #[run, .string nm, .string to, .slice A bs.length c, .bool tears] 88)).cell? ⟨w.heap.size, 1, none⟩ = some (.string nm) := new_cell _ _ _ _ rfl 1
  have c3 : (w.alloc (.cells #[run, .string nm, .string to, .slice A bs.length c, .bool tears] 88)).cell? ⟨w.heap.size, 3, none⟩ = some (.slice A bs.length c) := new_cell _ _ _ _ rfl 3
  generalize w.alloc (.cells #[run, .string nm, .string to, .slice A bs.length c, .bool tears] 88) = W at *
  have hsW : w.heap.size < W.heap.size := by omega
  have HSd : Hid (SB W.drew A bs) := HS.out
  have HR : Hid (RB W.drew v.1 v.2) := HOf.out.rb HW.out
  have hlook : (Instr.lookup 78 (.map (some b)) (.string nm) false).run Try.prog W.drew = .ok (vB v.1) W.drew := by
    have hm : MapIs okS kS vE W.drew b E := HW.out.1
    have := MapIs.look mkS Try.underlying78 (zero22 _) hm Hn.out false
    rw [show (Value.string nm) = kS nm from rfl, this, ← Hv.out]
    cases asc E nm <;> rfl
  clear hs0
  go_region_held3 (fun w' => w'.cell? ⟨w.heap.size, 1, none⟩ = some (.string nm) ∧ w'.cell? ⟨w.heap.size, 3, none⟩ = some (.slice A bs.length c))
    (first | go_keep | (refine ⟨?_, ?_⟩ <;> (first | (rw [K4.out.cell]; rfl) | (rw [K1.out.cell]; rfl))))
    (first
      | ((with_reducible refine step_append_bytes rfl _ _ rfl v.1 v.2 rfl HR.out A c bs rfl HSd.out hl ?_); intro d3 w3 hl3 ha3; have hc3 := Ch.of_drew ha3.ch; have K1 : Hid (IsB w3 w.heap.size 88 #[run, .string nm, .string to, .slice A bs.length c, .bool tears]) := box_kept hc3 HR.out Box.out; have H3 := Lib.hid (HW.out.app HOf.out hc3); have A3 := Lib.hid ha3; have C3 := Lib.hid hc3; obtain ⟨w4, hu, hm4, hg4, hz4⟩ := MapIs.update mkS Try.underlying78 H3.out.1 Hn.out (d3, v.2 ++ bs); have hu' : (Instr.mapUpdate 78 (.map (some b)) (.string nm) (vB d3)).run Try.prog w3 = .ok () w4 := hu; have M4 := Lib.hid hm4; have G4 := Lib.hid hg4; have K4 : Hid (IsB w4 w.heap.size 88 #[run, .string nm, .string to, .slice A bs.length c, .bool tears]) := K1.out.grown hg4 (fun e => is_map H3.out.1 (by injection e with e; rw [← e]; exact K1.out)); clear hl3 ha3 hc3 hu hm4 hg4 hz4))
  all_goals (
    go_wp2_with fail
    go_end0
    have hne : ∀ e ∈ E, e.1 ≠ nm → ∀ g, blk e.2.1 = some g → blk d3 ≠ some g := fun e he hen g hg hg' => by
      obtain ⟨_, ⟨e1, _, _, _⟩ | ⟨H, e1, e2, _⟩⟩ := A3.out
      · have := HOf.out.own HW.out he hg (by rw [← e1]; exact hg')
        exact hen (by rw [this])
      · have h1 := (HW.out.2.1 e he).lt hg
        rw [e1] at hg'
        injection hg' with hg'
        have : W.heap.size ≤ H := e2
        omega
    refine ⟨rfl, setL E nm (d3, v.2 ++ bs), H3.out.set_ M4.out G4.out A3.out.1 hne, plain_setL E nm (d3, v.2 ++ bs), fun e he g hg => ?_, Ch.after HB0.out (Ch.then (Ch.wide HW.out HOf.out C3.out) (grown_ch G4.out _))⟩
    rcases (setL_pairwise (R := fun _ _ => True) H3.out.1.nodup (List.pairwise_of_forall (by simp)) nm (d3, v.2 ++ bs) (by simp) (by simp)).2 e he with rfl | he
    · obtain ⟨_, ⟨e1, e2, e3, _⟩ | ⟨H, e1, e2, _⟩⟩ := A3.out
      · rcases HOf.out with hz | hi
        · rw [e1, hz] at hg; cases hg
        · exact .inr ⟨_, hi, by rw [← e1]; exact hg, e3, e2.symm⟩
      · refine .inl ?_
        have h1 : blk d3 = some g := hg
        rw [e1] at h1
        injection h1 with h1
        have : W.heap.size ≤ H := e2
        omega
    · exact .inr ⟨e, he, hg, Nat.le_refl _, rfl⟩)
end Go.Proofs.Ytddjkkmdcdiofaa
