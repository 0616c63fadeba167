/- Contracts: rename. -/
import Derived.Test.YtddjkkmdcdiofaaG
namespace Go.Proofs.Ytddjkkmdcdiofaa
open Go.RowKit Go.MapKept Go.ChangeMaps

theorem del_set {α β : Type} [DecidableEq α] (L : List (α × β)) {a a' : α} (h : a ≠ a') (v : β) : delL (setL L a' v) a = setL (delL L a) a' v := by
  induction L with
  | nil => simp [delL, setL, h.symm]
  | cons c L ih =>
    by_cases h1 : c.1 = a'
    · have h2 : ¬ c.1 = a := fun e => h (e.symm.trans h1)
      rw [setL, if_pos h1, delL, if_neg (by simpa using h.symm), delL, if_neg h2, setL, if_pos h1]
    · rw [setL, if_neg h1]
      by_cases h2 : c.1 = a
      · rw [delL, if_pos h2, delL, if_pos h2]
      · rw [delL, if_neg h2, delL, if_neg h2, setL, if_neg h1, ih]
theorem toList_loop (s : ByteArray) (n : Nat) : ∀ i r, s.size - i = n → ByteArray.toList.loop s i r = r.reverse ++ s.data.toList.drop i := by
  induction n with
  | zero =>
    intro i r h
    unfold ByteArray.toList.loop
    rw [if_neg (by omega), List.drop_eq_nil_of_le (by show s.data.toList.length ≤ i; have : s.data.toList.length = s.size := rfl; omega), List.append_nil]
  | succ n ih =>
    intro i r h
    unfold ByteArray.toList.loop
    have hi : i < s.data.toList.length := by have : s.data.toList.length = s.size := rfl; omega
    rw [if_pos (by omega), ih _ _ (by omega), List.drop_eq_getElem_cons hi, List.reverse_cons, List.append_assoc]
    have : s.get! i = s.data.toList[i] := by
      show s.data[i]! = _
      rw [getElem!_pos s.data i (by simpa using hi)]
      simp
    rw [this]; rfl
theorem toList_data (s : ByteArray) : s.toList = s.data.toList := by
  rw [ByteArray.toList, toList_loop s _ 0 [] rfl]; rfl
theorem toList_inj {s t : ByteArray} (h : s.toList = t.toList) : s = t := by
  rw [toList_data, toList_data] at h
  have : s.data = t.data := Array.toList_inj.mp h
  cases s; cases t; simpa using this
def zeroE : En := (⟨none, 0, 0⟩, [])
theorem RB.zero (w : World) : RB w ⟨none, 0, 0⟩ [] := ⟨rfl, Nat.le_refl _, fun _ => rfl, (fun ad e => by cases e)⟩
/-- What rename does. -/
def renameP (F : List (ByteArray × List UInt8)) (nm to : ByteArray) : List (ByteArray × List UInt8) := if nm = to then F else delL (setL F to ((asc F nm).getD [])) nm

set_option maxRecDepth 100000 in
set_option maxHeartbeats 4000000 in
theorem rename_any (b : Nat) (E : Files) (run : Value) (nm to : ByteArray) (d : BD) (tears : Bool) (w : World) (h : FM w b E) (hn : okS nm) (ht : okS to) :
    Calls Try.prog 57 #[.map (some b), vOp run nm to d tears] w (OpPost b E (renameP (plain E) nm to) w) := by
  have H := Lib.hid h
  by_cases he : nm = to
  · have HP : Hid (renameP (plain E) nm to = plain E) := by rw [Hid, renameP, if_pos he]
    subst he
    clear h
    go_enter Try.func57, Try.ntmps57
    go_wp2_with fail
    go_end0
    rw [HP.out]
    exact ⟨rfl, E, H.out.on (bel1 _ _), rfl, Succ.refl _ _, Ch.below (bel1 _ _) _ _⟩
  · obtain ⟨v, Hv⟩ : ∃ v, Hid ((asc E nm).getD zeroE = v) := ⟨_, rfl⟩
    have HP : Hid (renameP (plain E) nm to = plain (delL (setL E to v) nm)) := by
      rw [Hid, renameP, if_neg he, plain_delL, plain_setL, asc_plain, ← Hv.out]
      cases asc E nm <;> rfl
    have hW := h.1.alloc (.cells #[run, .string nm, .string to, .slice d.A d.len d.cap, .bool tears] 88)
    have hlook : (Instr.lookup 78 (.map (some b)) (.string nm) false).run Try.prog (w.alloc (.cells #[run, .string nm, .string to, .slice d.A d.len d.cap, .bool tears] 88)) = .ok (vE v) (w.alloc (.cells #[run, .string nm, .string to, .slice d.A d.len d.cap, .bool tears] 88)) := by
      have := MapIs.look mkS Try.underlying78 (zero22 _) hW hn false
      rw [show (Value.string nm) = kS nm from rfl, this, ← Hv.out]
      cases asc E nm <;> rfl
    obtain ⟨w2, hu, hm2, hg2, hz2⟩ := MapIs.update mkS Try.underlying78 hW ht v
    obtain ⟨w3, hd, hm3, hg3, hz3⟩ := MapIs.delete mkS Try.underlying78 hm2 hn 9 0
    have hu' : (Instr.mapUpdate 78 (.map (some b)) (.string to) (vE v)).run Try.prog (w.alloc (.cells #[run, .string nm, .string to, .slice d.A d.len d.cap, .bool tears] 88)) = .ok () w2 := hu
    have hd' : ∀ ty, (Builtin.delete_ #[78, 9] ty #[.map (some b), .string nm]).run Try.prog w2 = .ok (.tuple #[]) w3 := fun _ => hd
    have M3 := Lib.hid hm3
    have G3 : Hid ((w.alloc (.cells #[run, .string nm, .string to, .slice d.A d.len d.cap, .bool tears] 88)).grownBy w3 (some b)) := g_trans hg2 hg3
    have I2 : Hid (IsB w2 w.heap.size 88 #[run, .string nm, .string to, .slice d.A d.len d.cap, .bool tears]) := (IsB.new w _ _).grown hg2 (fun e => by injection e with e; have := h.1.lt; omega)
    have i1 : w2.cell? ⟨w.heap.size, 1, none⟩ = some (.string nm) := by rw [I2.out.cell]; rfl
    have i2 : w2.cell? ⟨w.heap.size, 2, none⟩ = some (.string to) := by rw [I2.out.cell]; rfl
    have HVin : Hid (v = zeroE ∨ (nm, v) ∈ E) := by
      have := Hv.out
      cases ha : asc E nm with
      | none => rw [ha] at this; exact .inl this.symm
      | some u => rw [ha] at this; right; rw [← this]; exact mem_of_asc ha
    have hb1 : (nm.toList == to.toList) = false := by rw [beq_eq_false_iff_ne]; exact fun e => he (toList_inj e)
    have He : Hid (nm ≠ to) := he
    clear h hW hu hd hm2 hg2 hz2 hm3 hg3 hz3 hn ht
    go_enter Try.func57, Try.ntmps57
    go_wp2_with fail
    go_end0
    have hfm := H.out.on (bel1 w (.cells #[run, .string nm, .string to, .slice d.A d.len d.cap, .bool tears] 88))
    have hM := M3.out
    rw [del_set E He.out v] at hM
    rw [HP.out, del_set E He.out v]
    have hrv : RB (w.alloc (.cells #[run, .string nm, .string to, .slice d.A d.len d.cap, .bool tears] 88)) v.1 v.2 := by
      rcases HVin.out with hz | hi
      · rw [hz]; exact RB.zero _
      · exact hfm.2.1 _ hi
    have hdn : ((delL E nm).map (·.1)).Nodup := by
      have : E.Pairwise (fun x y => x.1 ≠ y.1) := by simpa [List.Nodup, List.pairwise_map] using hfm.1.nodup
      have := delL_pairwise this nm
      simpa [List.Nodup, List.pairwise_map] using this
    have hdk : ∀ c ∈ delL E nm, c.1 ≠ nm := by
      intro c hc e
      have h1 := asc_delL hfm.1.nodup nm nm
      rw [if_pos rfl] at h1
      have h2 := asc_mem hdn hc
      rw [e, h1] at h2
      cases h2
    obtain ⟨p1, p2⟩ := setL_pairwise (R := fun x y : ByteArray × En => ∀ g, blk x.2.1 = some g → blk y.2.1 ≠ some g) hdn (delL_pairwise hfm.2.2 nm) to v (fun x y hxy g hy hx => hxy g hx hy) (fun c hc _ g h1 h2 => by
      rcases HVin.out with hz | hi
      · rw [hz] at h2; cases h2
      · have := FM.own hfm.2.2 (delL_sub E nm c hc) hi h1 h2
        exact hdk c hc (by rw [this]))
    refine ⟨rfl, _, ⟨hM, fun e hee => ?_, p1⟩, rfl, fun e hee g hg => ?_, Ch.after (bel1 _ _) (grown_ch G3.out _)⟩
    · rcases p2 e hee with rfl | hi
      · exact hrv.grown G3.out (RB.ne_map hfm.1 hrv)
      · have := hfm.2.1 e (delL_sub E nm e hi)
        exact this.grown G3.out (RB.ne_map hfm.1 this)
    · rcases p2 e hee with rfl | hi
      · rcases HVin.out with hz | hi
        · rw [hz] at hg; cases hg
        · exact .inr ⟨_, hi, hg, Nat.le_refl _, rfl⟩
      · exact .inr ⟨e, delL_sub E nm e hi, hg, Nat.le_refl _, rfl⟩
end Go.Proofs.Ytddjkkmdcdiofaa
