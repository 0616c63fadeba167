/- Contracts: do of the reference. -/
import Derived.Test.YtddjkkmdcdiofaaRD
import Derived.Test.YtddjkkmdcdiofaaTE
namespace Go.Proofs.Ytddjkkmdcdiofaa
open Go.RowKit Go.MapKept Go.ChangeMaps

/-- What an operation of the reference makes of files. -/
def doF (f : FF) (o : LOp) : FF :=
  if o.k = 1 then f.set o.nm (some o.bs)
  else if o.k = 2 then (if (f o.nm).isSome then f.set o.nm (some ((f o.nm).getD [] ++ o.bs)) else f)
  else if o.k = 3 then (if (f o.nm).isSome = true ∧ o.to ≠ o.nm then (f.set o.nm none).set o.to (some ((f o.nm).getD [])) else f)
  else f.set o.nm none
/-- Bytes of files are old ones, or new. -/
def NewF (H : Nat) (fs fs' : List RFile) : Prop := ∀ y ∈ fs', (∃ x ∈ fs, y.d = x.d) ∨ ∀ g, blk y.d = some g → H ≤ g
def RDoPost (fs : List RFile) (o : LOp) (w : World) (e : Ending) (w' : World) : Prop := ∃ A c fs', e = .returned (.slice A fs'.length c) ∧ FL w' A c fs' ∧ (∀ m, asc (pl fs') m = doF (asc (pl fs)) o m) ∧ NewF w.heap.size fs fs' ∧ Below w.heap.size w w'
theorem NewF.refl (H : Nat) (fs : List RFile) : NewF H fs fs := fun y hy => .inl ⟨y, hy, rfl⟩
theorem NewF.with {H : Nat} {fs : List RFile} {x : RFile} (hx : (∃ y ∈ fs, x.d = y.d) ∨ ∀ g, blk x.d = some g → H ≤ g) : NewF H fs (withR fs x) := fun y hy => by
  rcases with_mem hy with rfl | hy
  · exact hx
  · exact .inl ⟨y, hy, rfl⟩
theorem NewF.trans {H H' : Nat} {a b c : List RFile} (h : NewF H a b) (k : NewF H' b c) (hH : H ≤ H') : NewF H a c := fun y hy => by
  rcases k y hy with ⟨x, hx, e⟩ | h1
  · rcases h x hx with ⟨z, hz, e2⟩ | h2
    · exact .inl ⟨z, hz, e.trans e2⟩
    · exact .inr (fun g hg => h2 g (by rw [← e]; exact hg))
  · exact .inr (fun g hg => by have := h1 g hg; omega)
theorem fset_eq (f : FF) (n : ByteArray) (v : Option (List UInt8)) (m : ByteArray) : f.set n v m = if n = m then v else f m := by
  unfold FF.set
  by_cases e : n = m
  · simp [e]
  · simp [e]
theorem NewF.without {H : Nat} {fs : List RFile} {n : ByteArray} : NewF H fs (withoutR fs n) := fun y hy => .inl ⟨y, without_mem hy, rfl⟩
theorem without_len (fs : List RFile) (n : ByteArray) : (withoutR fs n).length ≤ fs.length := by
  rw [withoutR_eq]
  split
  · simp; omega
  · exact Nat.le_refl _
theorem step_append_slice {o : Oper} {a : Act} {w : World} {ops : Array Oper} {Q : Exit → Act → World → Prop} {K : Act → World → Prop} {E : Prop} (hgd : o.guard = none) (s x : Operand) (ho : o.op = .call { callee := .builtin .append, args := #[s, x], argTypes := #[22, 22] }) (d : BD) (bs : List UInt8) (hs : a.eval s = .slice d.A d.len d.cap) (h : RB w d bs)
    (A : Option Addr) (c : Nat) (ns : List UInt8) (hx : a.eval x = .slice A ns.length c) (hsrc : SB w A ns) (hb : bs.length + ns.length ≤ 1099511627776)
    (hK : ∀ A' n' c' w', AppB w d (bs ++ ns) ⟨A', n', c'⟩ w' → K (a.put o.dst (.slice A' n' c')) w') : if Region.wanted o (yielded ops a.tmps) = true then Oper.wp Try.prog o a w K Q else E :=
  step_append_bytes hgd s x ho d bs hs h A c ns hx hsrc hb (fun d' w' _ h2 => hK d'.A d'.len d'.cap w' h2)
set_option maxRecDepth 100000 in
set_option maxHeartbeats 4000000 in
theorem do1_any (A : Option Addr) (c : Nat) (fs : List RFile) (nm to : ByteArray) (B : Option Addr) (cc : Nat) (bs : List UInt8) (w : World) (h : FL w A c fs) (hl : fs.length ≤ 100000) (hr : RB w ⟨B, bs.length, cc⟩ bs) (hn : okS nm) (ht : okS to) (hbs : bs.length ≤ 4194304) :
    Calls Try.prog 71 #[.slice A fs.length c, .agg #[.int .i64 1, .string nm, .string to, .slice B bs.length cc]] w (RDoPost fs ⟨1, nm, to, ⟨B, bs.length, cc⟩, bs⟩ w) := by
  have H := Lib.hid h
  have HR := Lib.hid hr
  have HN := Lib.hid hn
  have HT := Lib.hid ht
  clear h hr hn ht
  obtain ⟨p, HP⟩ : ∃ p, Hid (posP fs nm = p) := ⟨_, rfl⟩
  have hple : p ≤ fs.length := by rw [← HP.out]; exact posP_le _ _
  obtain ⟨b, Hb⟩ : ∃ b, Hid (hasP fs nm = b) := ⟨_, rfl⟩
  have Bx : Hid (IsB (w.alloc (.cells #[.int .i64 1, .string nm, .string to, .slice B bs.length cc] 51)) w.heap.size 51 #[.int .i64 1, .string nm, .string to, .slice B bs.length cc]) := IsB.new _ _ _
  have F0 : Hid (FL (w.alloc (.cells #[.int .i64 1, .string nm, .string to, .slice B bs.length cc] 51)) A c fs) := H.out.on (bel1 _ _)
  have R0 : Hid (RB (w.alloc (.cells #[.int .i64 1, .string nm, .string to, .slice B bs.length cc] 51)) ⟨B, bs.length, cc⟩ bs) := HR.out.on (bel1 _ _)
  have s0 : w.heap.size ≤ (w.alloc (.cells #[.int .i64 1, .string nm, .string to, .slice B bs.length cc] 51)).heap.size := by simp
  go_enter Try.func71, Try.ntmps71
  go_wp2_with fail
  refine (place_any A c fs nm _ F0.out hl).mono ?_
  rintro e w1 ⟨he, hb1⟩
  rw [HP.out, Hb.out] at he
  subst he
  have F1 : Hid (FL w1 A c fs) := F0.out.on hb1
  have R1 : Hid (RB w1 ⟨B, bs.length, cc⟩ bs) := R0.out.on hb1
  have I1 : Hid (IsB w1 w.heap.size 51 #[.int .i64 1, .string nm, .string to, .slice B bs.length cc]) := Bx.out.on hb1
  have B1 : Hid (Below w.heap.size w w1) := (bel1 w _).trans (hb1.mono s0)
  have hw1 : w.heap.size < w1.heap.size := I1.out.lt
  clear hb1
  have k0 : w1.cell? ⟨w.heap.size, 0, none⟩ = some (.int .i64 1) := I1.out.cell 0
  have k1 : w1.cell? ⟨w.heap.size, 1, none⟩ = some (.string nm) := I1.out.cell 1
  have k2 : w1.cell? ⟨w.heap.size, 2, none⟩ = some (.string to) := I1.out.cell 2
  have k3 : w1.cell? ⟨w.heap.size, 3, none⟩ = some (.slice B bs.length cc) := I1.out.cell 3
  have RD1 : Hid (SB w1.drew B bs) := R1.out.src
  go_wp2_with fail
  go_region_held3 (fun w' => w'.cell? ⟨w.heap.size, 1, none⟩ = some (.string nm) ∧ w'.cell? ⟨w.heap.size, 3, none⟩ = some (.slice B bs.length cc))
    (first | go_keep | exact K2.out | exact K3.out)
    (first
      | ((with_reducible refine step_append_slice rfl _ _ rfl ⟨none, 0, 0⟩ [] rfl (RB.zero _) B cc bs rfl RD1.out (by simp; omega) ?_); intro A2 n2 c2 w2 ha2; obtain ⟨a1, a2, a3⟩ := AppB.new (w0 := w1) ha2 (by simp [blk]) (bel_drew (Below.refl _ _)); have R2 : Hid (RB w2 ⟨A2, n2, c2⟩ bs) := a1; have N2 := Lib.hid a2; have B2 := Lib.hid a3; have I2 : Hid (IsB w2 w.heap.size 51 #[.int .i64 1, .string nm, .string to, .slice B bs.length cc]) := I1.out.on a3; have K2 : Hid (w2.cell? ⟨w.heap.size, 1, none⟩ = some (.string nm) ∧ w2.cell? ⟨w.heap.size, 3, none⟩ = some (.slice B bs.length cc)) := ⟨(I2.out.cell 1).trans rfl, (I2.out.cell 3).trans rfl⟩; have HC : Hid (Calls Try.prog 65 #[.slice A fs.length c, .agg #[.string nm, Value.slice A2 n2 c2]] w2 (FLPost (withR fs ⟨nm, ⟨A2, n2, c2⟩, bs⟩) w2)) := with_any A c fs ⟨nm, ⟨A2, n2, c2⟩, bs⟩ w2 (F1.out.on a3) hl a1 HN.out; clear ha2 a1 a2 a3)
      | (go_at_call 65; (with_reducible refine HC.out.mono ?_); rintro e w3 ⟨A3, c3, rfl, hf3, hb3⟩; have F3 := Lib.hid hf3; have B3 := Lib.hid hb3; have I3 : Hid (IsB w3 w.heap.size 51 #[.int .i64 1, .string nm, .string to, .slice B bs.length cc]) := I2.out.on hb3; have K3 : Hid (w3.cell? ⟨w.heap.size, 1, none⟩ = some (.string nm) ∧ w3.cell? ⟨w.heap.size, 3, none⟩ = some (.slice B bs.length cc)) := ⟨(I3.out.cell 1).trans rfl, (I3.out.cell 3).trans rfl⟩; clear hf3 hb3))
  all_goals (
    go_wp2_with fail
    go_ret
    refine ⟨A3, c3, _, rfl, F3.out, fun m => ?_, NewF.with (.inr fun g hg => ?_), (B1.out.trans (B2.out.mono B1.out.size)).trans (B3.out.mono (Nat.le_trans B1.out.size B2.out.size))⟩
    · rw [with_asc H.out.sort]
      simp only [doF]
      rfl
    · have := N2.out g hg
      have := B1.out.size
      omega)
set_option maxRecDepth 100000 in
set_option maxHeartbeats 4000000 in
theorem do2_any (A : Option Addr) (c : Nat) (fs : List RFile) (nm to : ByteArray) (B : Option Addr) (cc : Nat) (bs : List UInt8) (w : World) (h : FL w A c fs) (hl : fs.length ≤ 100000) (hr : RB w ⟨B, bs.length, cc⟩ bs) (hn : okS nm) (ht : okS to) (hbs : bs.length ≤ 4194304) (hx2 : ∀ x ∈ fs, x.bs.length ≤ 1073741824) :
    Calls Try.prog 71 #[.slice A fs.length c, .agg #[.int .i64 2, .string nm, .string to, .slice B bs.length cc]] w (RDoPost fs ⟨2, nm, to, ⟨B, bs.length, cc⟩, bs⟩ w) := by
  have H := Lib.hid h
  have HR := Lib.hid hr
  have HN := Lib.hid hn
  have HT := Lib.hid ht
  have HX2 := Lib.hid hx2
  clear hx2
  clear h hr hn ht
  obtain ⟨p, HP⟩ : ∃ p, Hid (posP fs nm = p) := ⟨_, rfl⟩
  have hple : p ≤ fs.length := by rw [← HP.out]; exact posP_le _ _
  obtain ⟨b, Hb⟩ : ∃ b, Hid (hasP fs nm = b) := ⟨_, rfl⟩
  have Bx : Hid (IsB (w.alloc (.cells #[.int .i64 2, .string nm, .string to, .slice B bs.length cc] 51)) w.heap.size 51 #[.int .i64 2, .string nm, .string to, .slice B bs.length cc]) := IsB.new _ _ _
  have F0 : Hid (FL (w.alloc (.cells #[.int .i64 2, .string nm, .string to, .slice B bs.length cc] 51)) A c fs) := H.out.on (bel1 _ _)
  have R0 : Hid (RB (w.alloc (.cells #[.int .i64 2, .string nm, .string to, .slice B bs.length cc] 51)) ⟨B, bs.length, cc⟩ bs) := HR.out.on (bel1 _ _)
  have s0 : w.heap.size ≤ (w.alloc (.cells #[.int .i64 2, .string nm, .string to, .slice B bs.length cc] 51)).heap.size := by simp
  go_enter Try.func71, Try.ntmps71
  go_wp2_with fail
  refine (place_any A c fs nm _ F0.out hl).mono ?_
  rintro e w1 ⟨he, hb1⟩
  rw [HP.out, Hb.out] at he
  subst he
  have F1 : Hid (FL w1 A c fs) := F0.out.on hb1
  have R1 : Hid (RB w1 ⟨B, bs.length, cc⟩ bs) := R0.out.on hb1
  have I1 : Hid (IsB w1 w.heap.size 51 #[.int .i64 2, .string nm, .string to, .slice B bs.length cc]) := Bx.out.on hb1
  have B1 : Hid (Below w.heap.size w w1) := (bel1 w _).trans (hb1.mono s0)
  have hw1 : w.heap.size < w1.heap.size := I1.out.lt
  clear hb1
  have k0 : w1.cell? ⟨w.heap.size, 0, none⟩ = some (.int .i64 2) := I1.out.cell 0
  have k1 : w1.cell? ⟨w.heap.size, 1, none⟩ = some (.string nm) := I1.out.cell 1
  have k2 : w1.cell? ⟨w.heap.size, 2, none⟩ = some (.string to) := I1.out.cell 2
  have k3 : w1.cell? ⟨w.heap.size, 3, none⟩ = some (.slice B bs.length cc) := I1.out.cell 3
  cases b
  · go_wp2_with fail
    go_ret
    refine ⟨A, c, fs, rfl, F1.out, fun m => ?_, NewF.refl _ _, B1.out⟩
    have := hasP_asc H.out.sort nm
    rw [Hb.out] at this
    simp [doF, ← this]
  · obtain ⟨⟨xn, ⟨XA, XL, XC⟩, xb⟩, hx, hxn, hxa⟩ := posP_at H.out.sort Hb.out
    rw [HP.out] at hx
    simp only at hxn hxa
    have hxm := List.mem_of_getElem? hx
    have hplt := (List.getElem?_eq_some_iff.1 hx).1
    obtain ⟨g, hAg, hgl, _, c1⟩ := rowF F1.out.row hx
    have RX : Hid (RB w1 ⟨XA, XL, XC⟩ xb) := F1.out.rb _ hxm
    obtain rfl : xb.length = XL := RX.out.1
    have HXA := Lib.hid hxa
    have HXM := Lib.hid hxm
    simp only at c1
    subst hAg
    have hp0 : (0 : Int) ≤ p := by omega
    have hpi : (p : Int) < fs.length := by omega
    have hxl : xb.length ≤ 1073741824 := HX2.out _ hxm
    have RD1 : Hid (SB w1.drew XA xb) := RX.out.src
    clear hx hxa hxm
    go_wp2_with fail
    go_region_held3 (fun w' => w'.cell? ⟨w.heap.size, 1, none⟩ = some (.string nm) ∧ w'.cell? ⟨w.heap.size, 3, none⟩ = some (.slice B bs.length cc) ∧ w'.cell? ⟨g, p * 2 + 1, none⟩ = some (.slice XA xb.length XC))
      (first | go_keep | exact K2.out | exact K3.out | exact K4.out)
      (first
        | ((with_reducible refine step_append_slice rfl _ _ rfl ⟨none, 0, 0⟩ [] rfl (RB.zero _) XA XC xb rfl RD1.out (by simp; omega) ?_); intro A2 n2 c2 w2 ha2; obtain ⟨a1, a2, a3⟩ := AppB.new (w0 := w1) ha2 (by simp [blk]) (bel_drew (Below.refl _ _)); have R2 : Hid (RB w2 ⟨A2, n2, c2⟩ xb) := a1; have N2 := Lib.hid a2; have B2 := Lib.hid a3; have K2 : Hid (w2.cell? ⟨w.heap.size, 1, none⟩ = some (.string nm) ∧ w2.cell? ⟨w.heap.size, 3, none⟩ = some (.slice B bs.length cc) ∧ w2.cell? ⟨g, p * 2 + 1, none⟩ = some (.slice XA xb.length XC)) := ⟨(a3.cell (p := ⟨w.heap.size, 1, none⟩) hw1).trans k1, (a3.cell (p := ⟨w.heap.size, 3, none⟩) hw1).trans k3, (a3.cell (p := ⟨g, p * 2 + 1, none⟩) hgl).trans c1⟩; have RS2 : Hid (SB w2 B bs) := (R1.out.on a3).src; clear ha2 a1 a2 a3)
        | ((with_reducible refine step_append_slice rfl _ _ rfl ⟨A2, n2, c2⟩ xb rfl R2.out B cc bs rfl RS2.out (by omega) ?_); intro A3 n3 c3 w3 ha3; obtain ⟨a1, a2, a3⟩ := AppB.new (w0 := w1) ha3 N2.out B2.out; have N3 := Lib.hid a2; have B3 := Lib.hid a3; have K3 : Hid (w3.cell? ⟨w.heap.size, 1, none⟩ = some (.string nm) ∧ w3.cell? ⟨w.heap.size, 3, none⟩ = some (.slice B bs.length cc) ∧ w3.cell? ⟨g, p * 2 + 1, none⟩ = some (.slice XA xb.length XC)) := ⟨(a3.cell (p := ⟨w.heap.size, 1, none⟩) hw1).trans k1, (a3.cell (p := ⟨w.heap.size, 3, none⟩) hw1).trans k3, (a3.cell (p := ⟨g, p * 2 + 1, none⟩) hgl).trans c1⟩; have HC : Hid (Calls Try.prog 65 #[.slice (some ⟨g, 0, none⟩) fs.length c, .agg #[.string nm, .slice A3 n3 c3]] w3 (FLPost (withR fs ⟨nm, ⟨A3, n3, c3⟩, xb ++ bs⟩) w3)) := with_any _ c fs ⟨nm, ⟨A3, n3, c3⟩, xb ++ bs⟩ w3 (F1.out.on a3) hl a1 HN.out; clear ha3 a1 a2 a3)
        | (go_at_call 65; (with_reducible refine HC.out.mono ?_); rintro e w4 ⟨A4, c4, rfl, hf4, hb4⟩; have F4 := Lib.hid hf4; have B4 : Hid (Below w1.heap.size w1 w4) := B3.out.trans (hb4.mono B3.out.size); have K4 : Hid (w4.cell? ⟨w.heap.size, 1, none⟩ = some (.string nm) ∧ w4.cell? ⟨w.heap.size, 3, none⟩ = some (.slice B bs.length cc) ∧ w4.cell? ⟨g, p * 2 + 1, none⟩ = some (.slice XA xb.length XC)) := ⟨(B4.out.cell (p := ⟨w.heap.size, 1, none⟩) hw1).trans k1, (B4.out.cell (p := ⟨w.heap.size, 3, none⟩) hw1).trans k3, (B4.out.cell (p := ⟨g, p * 2 + 1, none⟩) hgl).trans c1⟩; clear hf4 hb4))
    all_goals (
      go_wp2_with fail
      go_ret
      refine ⟨A4, c4, _, rfl, F4.out, fun m => ?_, NewF.with (.inr fun q hq => ?_), B1.out.trans (B4.out.mono B1.out.size)⟩
      · rw [with_asc H.out.sort]
        simp [doF, fset_eq, HXA.out]
      · have := N3.out q hq
        have := B1.out.size
        omega)
set_option maxRecDepth 100000 in
set_option maxHeartbeats 4000000 in
theorem do3_any (A : Option Addr) (c : Nat) (fs : List RFile) (nm to : ByteArray) (B : Option Addr) (cc : Nat) (bs : List UInt8) (w : World) (h : FL w A c fs) (hl : fs.length ≤ 100000) (hr : RB w ⟨B, bs.length, cc⟩ bs) (hn : okS nm) (ht : okS to) (_hbs : bs.length ≤ 4194304) :
    Calls Try.prog 71 #[.slice A fs.length c, .agg #[.int .i64 3, .string nm, .string to, .slice B bs.length cc]] w (RDoPost fs ⟨3, nm, to, ⟨B, bs.length, cc⟩, bs⟩ w) := by
  have H := Lib.hid h
  have HR := Lib.hid hr
  have HN := Lib.hid hn
  have HT := Lib.hid ht
  clear h hr hn ht
  obtain ⟨p, HP⟩ : ∃ p, Hid (posP fs nm = p) := ⟨_, rfl⟩
  have hple : p ≤ fs.length := by rw [← HP.out]; exact posP_le _ _
  obtain ⟨b, Hb⟩ : ∃ b, Hid (hasP fs nm = b) := ⟨_, rfl⟩
  have Bx : Hid (IsB (w.alloc (.cells #[.int .i64 3, .string nm, .string to, .slice B bs.length cc] 51)) w.heap.size 51 #[.int .i64 3, .string nm, .string to, .slice B bs.length cc]) := IsB.new _ _ _
  have F0 : Hid (FL (w.alloc (.cells #[.int .i64 3, .string nm, .string to, .slice B bs.length cc] 51)) A c fs) := H.out.on (bel1 _ _)
  have R0 : Hid (RB (w.alloc (.cells #[.int .i64 3, .string nm, .string to, .slice B bs.length cc] 51)) ⟨B, bs.length, cc⟩ bs) := HR.out.on (bel1 _ _)
  have s0 : w.heap.size ≤ (w.alloc (.cells #[.int .i64 3, .string nm, .string to, .slice B bs.length cc] 51)).heap.size := by simp
  go_enter Try.func71, Try.ntmps71
  go_wp2_with fail
  refine (place_any A c fs nm _ F0.out hl).mono ?_
  rintro e w1 ⟨he, hb1⟩
  rw [HP.out, Hb.out] at he
  subst he
  have F1 : Hid (FL w1 A c fs) := F0.out.on hb1
  have R1 : Hid (RB w1 ⟨B, bs.length, cc⟩ bs) := R0.out.on hb1
  have I1 : Hid (IsB w1 w.heap.size 51 #[.int .i64 3, .string nm, .string to, .slice B bs.length cc]) := Bx.out.on hb1
  have B1 : Hid (Below w.heap.size w w1) := (bel1 w _).trans (hb1.mono s0)
  have hw1 : w.heap.size < w1.heap.size := I1.out.lt
  clear hb1
  have k0 : w1.cell? ⟨w.heap.size, 0, none⟩ = some (.int .i64 3) := I1.out.cell 0
  have k1 : w1.cell? ⟨w.heap.size, 1, none⟩ = some (.string nm) := I1.out.cell 1
  have k2 : w1.cell? ⟨w.heap.size, 2, none⟩ = some (.string to) := I1.out.cell 2
  have k3 : w1.cell? ⟨w.heap.size, 3, none⟩ = some (.slice B bs.length cc) := I1.out.cell 3
  cases b
  · go_wp2_with fail
    go_ret
    refine ⟨A, c, fs, rfl, F1.out, fun m => ?_, NewF.refl _ _, B1.out⟩
    have := hasP_asc H.out.sort nm
    rw [Hb.out] at this
    simp [doF, ← this]
  · by_cases hq : to = nm
    · have hqb : (to.toList == nm.toList) = true := by rw [hq]; simp
      have HQ := Lib.hid hq
      clear hq
      go_wp2_with fail
      go_ret
      exact ⟨A, c, fs, rfl, F1.out, fun m => by simp [doF, HQ.out], NewF.refl _ _, B1.out⟩
    have hqb : (to.toList == nm.toList) = false := by
      rw [beq_eq_false_iff_ne]
      exact fun e => hq (toList_inj e)
    have HQ := Lib.hid hq
    clear hq
    obtain ⟨⟨xn, ⟨XA, XL, XC⟩, xb⟩, hx, hxn, hxa⟩ := posP_at H.out.sort Hb.out
    rw [HP.out] at hx
    simp only at hxn hxa
    have hxm := List.mem_of_getElem? hx
    have hplt := (List.getElem?_eq_some_iff.1 hx).1
    obtain ⟨g, hAg, hgl, _, c1⟩ := rowF F1.out.row hx
    have RX : Hid (RB w1 ⟨XA, XL, XC⟩ xb) := F1.out.rb _ hxm
    obtain rfl : xb.length = XL := RX.out.1
    have HXA := Lib.hid hxa
    have HXM := Lib.hid hxm
    simp only at c1
    subst hAg
    have hp0 : (0 : Int) ≤ p := by omega
    have hpi : (p : Int) < fs.length := by omega
    have HFd : Hid (FL w1.drew (some ⟨g, 0, none⟩) c fs) := F1.out.on (bel_drew (Below.refl _ _))
    have hl2 : (withoutR fs nm).length ≤ 100000 := Nat.le_trans (without_len _ _) hl
    clear hx hxa hxm
    go_wp2_with fail
    go_region_held3 (fun w' => w'.cell? ⟨w.heap.size, 1, none⟩ = some (.string nm) ∧ w'.cell? ⟨w.heap.size, 2, none⟩ = some (.string to) ∧ w'.cell? ⟨g, p * 2 + 1, none⟩ = some (.slice XA xb.length XC))
      (first | go_keep | exact K2.out | exact K3.out)
      (first
        | (go_at_call 83; (with_reducible refine (without_any (some ⟨g, 0, none⟩) c fs nm w1.drew HFd.out hl).mono ?_); rintro e w2 ⟨A2, c2, rfl, hf2, hb2'⟩; have hb2 := of_drew hb2'; have F2 := Lib.hid hf2; have B2 : Hid (Below w1.heap.size w1 w2) := hb2; have K2 : Hid (w2.cell? ⟨w.heap.size, 1, none⟩ = some (.string nm) ∧ w2.cell? ⟨w.heap.size, 2, none⟩ = some (.string to) ∧ w2.cell? ⟨g, p * 2 + 1, none⟩ = some (.slice XA xb.length XC)) := ⟨(B2.out.cell (p := ⟨w.heap.size, 1, none⟩) hw1).trans k1, (B2.out.cell (p := ⟨w.heap.size, 2, none⟩) hw1).trans k2, (B2.out.cell (p := ⟨g, p * 2 + 1, none⟩) hgl).trans c1⟩; have HC : Hid (Calls Try.prog 65 #[.slice A2 (withoutR fs nm).length c2, .agg #[.string to, .slice XA xb.length XC]] w2 (FLPost (withR (withoutR fs nm) ⟨to, ⟨XA, xb.length, XC⟩, xb⟩) w2)) := with_any _ c2 (withoutR fs nm) ⟨to, ⟨XA, xb.length, XC⟩, xb⟩ w2 hf2 hl2 (RX.out.on B2.out) HT.out; clear hf2 hb2 hb2')
        | (go_at_call 65; (with_reducible refine HC.out.mono ?_); rintro e w3 ⟨A3, c3, rfl, hf3, hb3⟩; have F3 := Lib.hid hf3; have B3 : Hid (Below w1.heap.size w1 w3) := B2.out.trans (hb3.mono B2.out.size); have K3 : Hid (w3.cell? ⟨w.heap.size, 1, none⟩ = some (.string nm) ∧ w3.cell? ⟨w.heap.size, 2, none⟩ = some (.string to) ∧ w3.cell? ⟨g, p * 2 + 1, none⟩ = some (.slice XA xb.length XC)) := ⟨(B3.out.cell (p := ⟨w.heap.size, 1, none⟩) hw1).trans k1, (B3.out.cell (p := ⟨w.heap.size, 2, none⟩) hw1).trans k2, (B3.out.cell (p := ⟨g, p * 2 + 1, none⟩) hgl).trans c1⟩; clear hf3 hb3))
    all_goals (
      go_wp2_with fail
      go_ret
      refine ⟨A3, c3, _, rfl, F3.out, fun m => ?_, fun y hy => ?_, B1.out.trans (B3.out.mono B1.out.size)⟩
      · rw [with_asc (without_sorted H.out.sort nm), without_asc H.out.sort]
        simp [doF, fset_eq, HXA.out, HQ.out]
      · rcases with_mem hy with rfl | hy
        · exact .inl ⟨_, HXM.out, rfl⟩
        · exact .inl ⟨y, without_mem hy, rfl⟩)
set_option maxRecDepth 100000 in
set_option maxHeartbeats 4000000 in
theorem do4_any (A : Option Addr) (c : Nat) (fs : List RFile) (nm to : ByteArray) (B : Option Addr) (cc : Nat) (bs : List UInt8) (w : World) (h : FL w A c fs) (hl : fs.length ≤ 100000) (hr : RB w ⟨B, bs.length, cc⟩ bs) (hn : okS nm) (ht : okS to) (_hbs : bs.length ≤ 4194304) :
    Calls Try.prog 71 #[.slice A fs.length c, .agg #[.int .i64 4, .string nm, .string to, .slice B bs.length cc]] w (RDoPost fs ⟨4, nm, to, ⟨B, bs.length, cc⟩, bs⟩ w) := by
  have H := Lib.hid h
  have HR := Lib.hid hr
  have HN := Lib.hid hn
  have HT := Lib.hid ht
  clear h hr hn ht
  obtain ⟨p, HP⟩ : ∃ p, Hid (posP fs nm = p) := ⟨_, rfl⟩
  have hple : p ≤ fs.length := by rw [← HP.out]; exact posP_le _ _
  obtain ⟨b, Hb⟩ : ∃ b, Hid (hasP fs nm = b) := ⟨_, rfl⟩
  have Bx : Hid (IsB (w.alloc (.cells #[.int .i64 4, .string nm, .string to, .slice B bs.length cc] 51)) w.heap.size 51 #[.int .i64 4, .string nm, .string to, .slice B bs.length cc]) := IsB.new _ _ _
  have F0 : Hid (FL (w.alloc (.cells #[.int .i64 4, .string nm, .string to, .slice B bs.length cc] 51)) A c fs) := H.out.on (bel1 _ _)
  have R0 : Hid (RB (w.alloc (.cells #[.int .i64 4, .string nm, .string to, .slice B bs.length cc] 51)) ⟨B, bs.length, cc⟩ bs) := HR.out.on (bel1 _ _)
  have s0 : w.heap.size ≤ (w.alloc (.cells #[.int .i64 4, .string nm, .string to, .slice B bs.length cc] 51)).heap.size := by simp
  go_enter Try.func71, Try.ntmps71
  go_wp2_with fail
  refine (place_any A c fs nm _ F0.out hl).mono ?_
  rintro e w1 ⟨he, hb1⟩
  rw [HP.out, Hb.out] at he
  subst he
  have F1 : Hid (FL w1 A c fs) := F0.out.on hb1
  have R1 : Hid (RB w1 ⟨B, bs.length, cc⟩ bs) := R0.out.on hb1
  have I1 : Hid (IsB w1 w.heap.size 51 #[.int .i64 4, .string nm, .string to, .slice B bs.length cc]) := Bx.out.on hb1
  have B1 : Hid (Below w.heap.size w w1) := (bel1 w _).trans (hb1.mono s0)
  have hw1 : w.heap.size < w1.heap.size := I1.out.lt
  clear hb1
  have k0 : w1.cell? ⟨w.heap.size, 0, none⟩ = some (.int .i64 4) := I1.out.cell 0
  have k1 : w1.cell? ⟨w.heap.size, 1, none⟩ = some (.string nm) := I1.out.cell 1
  have k2 : w1.cell? ⟨w.heap.size, 2, none⟩ = some (.string to) := I1.out.cell 2
  have k3 : w1.cell? ⟨w.heap.size, 3, none⟩ = some (.slice B bs.length cc) := I1.out.cell 3
  go_wp2_with fail
  refine (without_any A c fs nm _ F1.out hl).mono ?_
  rintro e w2 ⟨A2, c2, rfl, hf2, hb2⟩
  have F2 := Lib.hid hf2
  have B2 := Lib.hid hb2
  clear hf2 hb2
  go_wp2_with fail
  go_ret
  refine ⟨A2, c2, _, rfl, F2.out, fun m => ?_, NewF.without, B1.out.trans (B2.out.mono B1.out.size)⟩
  rw [without_asc H.out.sort]
  simp [doF, fset_eq]
end Go.Proofs.Ytddjkkmdcdiofaa
