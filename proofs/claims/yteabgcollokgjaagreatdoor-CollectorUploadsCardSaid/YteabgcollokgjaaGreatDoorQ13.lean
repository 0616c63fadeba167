/- LI SU FC in one text. -/
import Derived.Shelf.SlIterI.Sorted
import Derived.Ground.GgzProg
import Derived.Test.YteabgcollokgjaaGreatDoorProg
import Derived.Test.YteabgcollokgjaaGreatDoorQ11
import Derived.Test.YteabgcollokgjaaGreatDoorQ12
set_option linter.unusedSimpArgs false
set_option linter.unusedVariables false
namespace Go.Proofs
open Go.Shelf
def Tryz.keysA_ren : Go.Shelf.Ren := ⟨fun | 7 => 139 | 10 => 184 | n => n, fun | 23 => 129 | 26 => 3 | 3 => 146 | 28 => 220 | 0 => 0 | 27 => 219 | 33 => 40 | 4 => 4 | n => n, fun | n => n⟩
theorem Tryz.keysA : Go.Proofs.SlLaysZI.n7 Tryz.prog Tryz.keysA_ren := {
 mixed := by kernel_rfl
 f7 := ⟨Tryz.f139.name, by decide, Tryz.func139.trans (congrArg some (by kernel_rfl))⟩
 f10 := ⟨Tryz.f184.name, by decide, Tryz.func184.trans (congrArg some (by kernel_rfl))⟩
 t0 := Tryz.underlying0
 a0 := Tryz.isAgg0
 z0 := Tryz.sizeOf0
 v0 := Tryz.zeroValue0
 t4 := Tryz.underlying4
 a4 := Tryz.isAgg4
 z4 := Tryz.sizeOf4
 v4 := Tryz.zeroValue4
 t23 := Tryz.underlying129
 a23 := Tryz.isAgg129
 z23 := Tryz.sizeOf129
 v23 := Tryz.zeroValue129
 t26 := Tryz.underlying3
 a26 := Tryz.isAgg3
 z26 := Tryz.sizeOf3
 v26 := Tryz.zeroValue3
 t27 := Tryz.underlying219
 a27 := Tryz.isAgg219
 z27 := Tryz.sizeOf219
 v27 := Tryz.zeroValue219
 t28 := Tryz.underlying220
 a28 := Tryz.isAgg220
 z28 := Tryz.sizeOf220
 v28 := Tryz.zeroValue220
 t33 := Tryz.underlying40
 a33 := Tryz.isAgg40
 z33 := Tryz.sizeOf40
 v33 := Tryz.zeroValue40 }
def Tryz.sortedA_ren : Go.Shelf.Ren := ⟨fun | 6 => 138 | 8 => 183 | 9 => 133 | 11 => 241 | 13 => 151 | 12 => 175 | 23 => 197 | 24 => 198 | 14 => 222 | 15 => 223 | 16 => 224 | 17 => 225 | 18 => 226 | 19 => 227 | 20 => 228 | 21 => 229 | 22 => 230 | 25 => 274 | 26 => 243 | 27 => 244 | 28 => 275 | 29 => 276 | 30 => 200 | 31 => 299 | n => n, fun | 26 => 3 | 28 => 220 | 24 => 47 | 0 => 0 | 3 => 3 | 37 => 230 | 48 => 276 | 50 => 29 | 4 => 4 | 40 => 269 | 39 => 268 | 45 => 155 | 5 => 5 | 9 => 9 | 51 => 316 | 55 => 320 | 57 => 349 | 58 => 159 | 33 => 40 | n => n, fun | n => n⟩
theorem Tryz.sortedA : Go.Proofs.SlLaysZI.n6 Tryz.prog Tryz.sortedA_ren := {
 mixed := by kernel_rfl
 f6 := ⟨Tryz.f138.name, by decide, Tryz.func138.trans (congrArg some (by kernel_rfl))⟩
 f8 := ⟨Tryz.f183.name, by decide, Tryz.func183.trans (congrArg some (by kernel_rfl))⟩
 f11 := ⟨Tryz.f241.name, by decide, Tryz.func241.trans (congrArg some (by kernel_rfl))⟩
 t0 := Tryz.underlying0
 a0 := Tryz.isAgg0
 z0 := Tryz.sizeOf0
 v0 := Tryz.zeroValue0
 t24 := Tryz.underlying47
 a24 := Tryz.isAgg47
 z24 := Tryz.sizeOf47
 v24 := Tryz.zeroValue47
 t26 := Tryz.underlying3
 a26 := Tryz.isAgg3
 z26 := Tryz.sizeOf3
 v26 := Tryz.zeroValue3
 t28 := Tryz.underlying220
 a28 := Tryz.isAgg220
 z28 := Tryz.sizeOf220
 v28 := Tryz.zeroValue220
 i26 := by kernel_rfl }
end Go.Proofs
namespace Go.Proofs.YteabgcollokgjaaGreatDoor
open Go.RowKit Go.MapKept Go.ChangeMaps Go.Shelf Go.Sort Go.Maps

def keysD (F : Option FR) : DataW Unit := .map (match F with | none => [] | some _ => [(.int .i64 1, .nil)])
def nilR (_ : Value) : Option (DataW Unit × List MemPlace) := some (.nil, [])
theorem owns_fl {w : World} {fm : Nat} {F : Option FR} (h : MapIs okN vN vPtr w fm (fL F)) : w.ownsMap Tryz.prog 3 nilR fm 1 (keysD F) := by
 obtain ⟨es, clock, hb, hs, he, hok⟩ := h
 cases F with
 | none =>
  have h0 : es.toList = [] := by simpa [fL] using he
  have h1 : es.size = 0 := by rw [← Array.length_toList, h0]; rfl
  refine ⟨es, clock, hb, ⟨by rw [h1]; unfold maxLen; omega, hs, by rw [h0]; simp⟩, by omega, ?_⟩
  rw [h0]
  rfl
 | some f =>
  obtain ⟨e, h0, hk⟩ : ∃ e, es.toList = [e] ∧ e.key = vN 1 := by
   match h : es.toList with
   | [] => rw [h] at he; simp [fL] at he
   | [e] =>
    rw [h] at he
    simp [fL] at he
    exact ⟨e, rfl, he.1⟩
   | a :: b :: l => rw [h] at he; simp [fL] at he
  have h1 : es.size = 1 := by rw [← Array.length_toList, h0]; rfl
  have hkey : keyOf Tryz.prog 3 (vN 1) = some (.int .i64 1) := by
   have := okN1
   simp only [okN] at this
   simp [keyOf, Tryz.underlying3, mapKey, this]
  have hrd : WideElems.rd Tryz.prog 3 nilR e = some (.int .i64 1, .nil) := by
   unfold WideElems.rd
   rw [hk, hkey]
   rfl
  refine ⟨es, clock, hb, ⟨by rw [h1]; unfold maxLen; omega, hs, fun x hx => ?_⟩, by omega, ?_⟩
  · rw [h0] at hx
    simp at hx
    subst hx
    exact ⟨_, hrd⟩
  · rw [h0]
    simp [keysD, WideElems.rg, hrd, DataW.insert]
theorem keysF_any (mb : Option Nat) (W : World) : Calls Tryz.prog 139 #[.map mb] W (fun e w' => e = .returned (.func (.func 184) #[] #[.pointer (some ⟨W.heap.size, 0, none⟩)]) ∧ w' = W.alloc (.cells #[.map mb] 129)) :=
 (callsIn_wide (n := 5)).1 (AnyZI.keys_in Tryz.keysA Fence.wide 5 trivial rfl mb W)
theorem sortsA (m : Nat) : AnyZI.SortsIn Tryz.prog Tryz.sortedA_ren Fence.wide m :=
 ⟨fun blk off cap ss W hH hblk hsz => callsIn_wide.2 (Tryz.slices_Sort_int blk off cap ss W hH hblk hsz),
  fun p cap W => callsIn_wide.2 (Tryz.slices_Sort_int_none p cap W)⟩
/-- The numbers of the files, sorted. -/
def NumPost (F : Option FR) (w : World) (e : Ending) (w' : World) : Prop :=
 ∃ (A : Option Addr) (n c : Nat), e = .returned (.slice A n c) ∧ n = (fL F).length ∧ (∀ f, F = some f → ∃ g, A = some ⟨g, 0, none⟩ ∧ w.heap.size ≤ g ∧ g < w'.heap.size ∧ w'.cell? ⟨g, 0, none⟩ = some (.int .i64 1)) ∧ Below w.heap.size w w'
theorem sortedF_any (Bm fm : Nat) (F : Option FR) (w : World) (hBm : Bm < w.heap.size) (hc : w.cell? ⟨Bm, 0, none⟩ = some (.map (some fm))) (hm : MapIs okN vN vPtr w fm (fL F)) :
 Calls Tryz.prog 138 #[.func (.func 184) #[] #[.pointer (some ⟨Bm, 0, none⟩)]] w (NumPost F w) := by
 have hseq : SeqGives Fence.wide 2 Tryz.prog 184 #[.pointer (some ⟨Bm, 0, none⟩)] encZ (fun ss => ss.Perm (intKeys (keysD F))) (Maps.size (keysD F)) w :=
  AnyZI.keys_gives (ρ := Tryz.keysA_ren) { Tryz.keysA with } Fence.wide _ trivial rfl (by omega) Bm fm 1 (keysD F) _ hBm hc (owns_fl hm)
 have hsz : Maps.size (keysD F) ≤ 1 := by cases F <;> simp [keysD, Maps.size]
 have cS := AnyZI.sorted_in Tryz.sortedA Fence.wide 5 trivial trivial trivial trivial rfl (by omega) (sortsA _) (enters_of Tryz.func133 (by kernel_rfl) rfl) 184 #[.pointer (some ⟨Bm, 0, none⟩)] trivial (enters_of Tryz.func184 (by kernel_rfl) rfl) _ _ (by unfold maxLen; omega) (by omega) _ hseq
 refine ((callsIn_wide (n := 5)).1 cS).mono ?_
 rintro e w' ⟨v, ss, rfl, hS, hrow, hnil, hb⟩
 cases F with
 | none =>
  have h0 : ss = [] := by simpa [keysD, intKeys] using hS
  have hv := hnil.2 h0
  subst hv
  exact ⟨none, 0, 0, rfl, rfl, (fun f hf => by cases hf), hb⟩
 | some f =>
  have h0 : ss = [1] := List.perm_singleton.1 hS
  subst h0
  have hms : ([1] : List Int).mergeSort (fun x y => decide (x ≤ y)) = [1] := by simp
  rw [hms] at hrow
  rcases hrow.2 with ⟨_, hx⟩ | ⟨g, cap, cur, hv, hrest⟩
  · simp at hx
  · subst hv
    have hlt := hrow.lt g rfl
    refine ⟨some ⟨g, 0, none⟩, 1, cap, rfl, rfl, fun f' _ => ⟨g, rfl, hlt.1, hlt.2, ?_⟩, hb⟩
    have := hrow.cellAt 0 (by simp)
    rw [this]
    rfl
end Go.Proofs.YteabgcollokgjaaGreatDoor
namespace Go.Proofs.YteabgcollokgjaaGreatDoor
open Go.RowKit Go.MapKept Go.ChangeMaps
attribute [local go_sem] wext_cell

set_option maxRecDepth 100000 in
set_option maxHeartbeats 2000000 in
theorem part_any (A : Option Addr) (c : Nat) (bs : List UInt8) (i : ID) (o : Nat) (w : World) (h : RS w A bs) (hn : bs.length ≤ 4194304) (hc : bs.length ≤ c) (hi : 1 ≤ i.2) (hi2 : (o : Int) + 28 + i.2 ≤ bs.length) :
 Calls Tryz.prog 237 #[.slice A bs.length c, .agg #[.int .u64 i.1, .int .i64 i.2, .int .i64 (o : Int)]] w (NewB (cutB bs i o) w) := by
 obtain ⟨s, z⟩ := i
 simp only at hi hi2
 have H := Lib.hid h
 clear h
 obtain ⟨zn, hzn⟩ : ∃ zn : Nat, z = (zn : Int) := ⟨z.toNat, by omega⟩
 obtain ⟨cs, HCS⟩ : ∃ cs, Hid ((bs.drop (o + 28)) = cs) := ⟨_, rfl⟩
 have hcl : cs.length = bs.length - (o + 28) := by rw [← HCS.out, List.length_drop]
 subst hzn
 have hle : o + 28 + zn ≤ bs.length := by omega
 have HCB : Hid (cutB bs (s, (zn : Int)) o = cs.take zn) := by
  rw [Hid, ← HCS.out]
  unfold cutB
  simp only
  rw [Int.toNat_natCast]
 rw [HCB.out]
 cases A with
 | none => exact absurd (H.out.1 rfl) (by omega)
 | some ad =>
  obtain ⟨g, og, rfl, _⟩ := H.out.2 ad rfl
  have hrs := H.out.sub (o + 28) cs.length (by omega)
  rw [HCS.out, List.take_length] at hrs
  have hmk := mk_bytes (w.alloc (.cells #[.int .u64 s, .int .i64 (zn : Int), .int .i64 (o : Int)] 166)) zn zn (by omega) (by omega)
  have hB : IsB ((w.alloc (.cells #[.int .u64 s, .int .i64 (zn : Int), .int .i64 (o : Int)] 166)).alloc (.cells (Array.replicate zn (encU 0)) 5)) (w.heap.size + 1) 5 (Array.replicate zn (encU 0)) := by
   have := IsB.new (w.alloc (.cells #[.int .u64 s, .int .i64 (zn : Int), .int .i64 (o : Int)] 166)) 5 (Array.replicate zn (encU 0))
   simpa using this
  have B1 := Lib.hid ((bel1q w (.cells #[.int .u64 s, .int .i64 (zn : Int), .int .i64 (o : Int)] 166)).alloc (by simp) (.cells (Array.replicate zn (encU 0)) 5))
  obtain ⟨w1, hcp, hg, hz, cur', c1, c2, c3, c4⟩ := run_copyB _ 3 (w.heap.size + 1) zn zn _ hB (some ⟨g, og + (o + 28), none⟩) (c - (o + 28)) cs (hrs.on B1.out).sb (by simp; omega)
  have hmin : min cs.length zn = zn := by omega
  rw [hmin] at hcp c3 c4
  have HG := Lib.hid hg
  have C1 := Lib.hid c1
  have C2 := Lib.hid c2
  have C3 := Lib.hid c3
  clear hg hz c1 c2 c3 c4 hB hrs hmin
  have c0 : (w.alloc (.cells #[.int .u64 s, .int .i64 (zn : Int), .int .i64 (o : Int)] 166)).cell? ⟨w.heap.size, 1, none⟩ = some (.int .i64 (zn : Int)) := (IsB.new w 166 _).cell 1
  have k2 : ((w.alloc (.cells #[.int .u64 s, .int .i64 (zn : Int), .int .i64 (o : Int)] 166)).alloc (.cells (Array.replicate zn (encU 0)) 5)).cell? ⟨w.heap.size, 2, none⟩ = some (.int .i64 (o : Int)) := ((IsB.new w 166 _).on (bel1q _ _)).cell 2
  have hlt : ¬ (c : Int) = (o : Int) + 28 := by omega
  have hcln : bs.length - (o + 28) = cs.length := hcl.symm
  clear hcl
  go_enter Tryz.func237, Tryz.ntmps237
  go_wp2_with fail
  go_ret
  refine ⟨⟨some ⟨w.heap.size + 1, 0, none⟩, zn, zn⟩, rfl, ⟨by simp; omega, Nat.le_refl _, (fun e => by cases e), fun ad e => ?_⟩, (fun g hg => by simp [blk] at hg; omega), ?_⟩
  · injection e with e
    subst e
    refine ⟨_, cur', rfl, C1.out, by rw [C2.out]; simp, fun j u hu => ?_⟩
    obtain ⟨hj, rfl⟩ := get_encU hu
    have hj2 : j < zn := by
     rw [List.length_take] at hj
     omega
    rw [C3.out j hj2, List.getD_eq_getElem?_getD, List.getD_eq_getElem?_getD, List.getElem?_take_of_lt hj2]
  · exact B1.out.grown HG.out (by simp; omega) (by simp)
theorem frameSize_any (i : ID) (w : World) (h0 : 0 ≤ i.2) (h1 : i.2 ≤ 1099511627776) : Calls Tryz.prog 140 #[.agg #[.int .u64 i.1, .int .i64 i.2]] w (Gives (.int .i64 (28 + i.2)) w) := by
 have hs : IntKind.i64.wrap (28 + i.2) = 28 + i.2 := IntWalk.i64_in _ (by omega)
 go_enter Tryz.func140, Tryz.ntmps140
 go_wp2_with fail
 go_ret
 exact ⟨rfl, bel1q _ _⟩
/-- The closure that asks for room. -/
theorem cl145_any (pc g : Nat) (len : Int) (i : ID) (w : World) (hc : w.cell? ⟨pc, 4, none⟩ = some (.int .i64 len)) (hg0 : w.cell? ⟨g, 0, none⟩ = some (.int .u64 i.1)) (hg1 : w.cell? ⟨g, 1, none⟩ = some (.int .i64 i.2)) (h0 : 0 ≤ i.2) (h1 : 0 ≤ len) (h2 : len + (28 + i.2) ≤ 1048576) :
 Calls Tryz.prog 145 #[vPtr pc, vPtr g] w (Gives (.bool true) w) := by
 have hpl : pc < w.heap.size := World.block_lt_of_cell? _ _ hc
 have hgl : g < w.heap.size := World.block_lt_of_cell? _ _ hg0
 have hs : IntKind.i64.wrap (len + (28 + i.2)) = len + (28 + i.2) := IntWalk.i64_in _ (by omega)
 go_enter Tryz.func145, Tryz.ntmps145
 go_wp2_with fail
 refine wp_region_ext (by kernel_rfl) (by kernel_rfl) ?_
 repeat (go_big_quiet_step ((go_at_call 140; exact ext_call (frameSize_any i _ h0 (by omega)))))
 refine wpQuiet_nil ?_
 intro w1 hb1
 go_wp2_with fail
 go_ret
 exact ⟨by simp, hb1⟩
/-- The closure that asks whether there is nothing to add. -/
theorem cl147_any (pc : Nat) (A : Option Addr) (n c : Nat) (w : World) (hc : w.cell? ⟨pc, 3, none⟩ = some (.slice A n c)) (h0 : 0 < n) :
 Calls Tryz.prog 147 #[vPtr pc] w (Gives (.bool false) w) := by
 have hn : ((n : Int) == 0) = false := by simp; omega
 have hn2 : decide ((n : Int) = 0) = false := by simp; omega
 go_enter Tryz.func147, Tryz.ntmps147
 go_wp2_with fail
 go_ret
 exact ⟨by simp, Below.refl _ _⟩
theorem index0 (f : Value) (w : World) : Calls Tryz.prog 144 #[.slice none 0 0, f] w (Gives (.int .i64 (-1)) w) := by
 go_enter Tryz.func144, Tryz.ntmps144
 go_wp2_with fail
 refine wp_loop_rounds 1 ?_
 rw [rounds_succ]
 go_wp2_with fail
 go_ret
 exact ⟨rfl, Below.refl _ _⟩
theorem index145 (lg pc g cap : Nat) (len : Int) (i : ID) (w : World) (hl : w.cell? ⟨lg, 0, none⟩ = some (vPtr pc)) (hc : w.cell? ⟨pc, 4, none⟩ = some (.int .i64 len)) (hg0 : w.cell? ⟨g, 0, none⟩ = some (.int .u64 i.1)) (hg1 : w.cell? ⟨g, 1, none⟩ = some (.int .i64 i.2)) (h0 : 0 ≤ i.2) (h1 : 0 ≤ len) (h2 : len + (28 + i.2) ≤ 1048576) :
 Calls Tryz.prog 144 #[.slice (some ⟨lg, 0, none⟩) 1 cap, .func (.func 145) #[] #[vPtr g]] w (Gives (.int .i64 0) w) := by
 have HC := Lib.hid (cl145_any pc g len i w hc hg0 hg1 h0 h1 h2)
 go_enter Tryz.func144, Tryz.ntmps144
 go_wp2_with fail
 refine wp_loop_rounds 1 ?_
 rw [rounds_succ]
 go_wp2_with (go_at_call 145; refine HC.out.mono ?_; rintro e w1 ⟨rfl, hb⟩)
 go_ret
 exact ⟨rfl, hb⟩
theorem index147 (lg pc cap : Nat) (A : Option Addr) (n c : Nat) (w : World) (hl : w.cell? ⟨lg, 0, none⟩ = some (vPtr pc)) (hc : w.cell? ⟨pc, 3, none⟩ = some (.slice A n c)) (h0 : 0 < n) :
 Calls Tryz.prog 144 #[.slice (some ⟨lg, 0, none⟩) 1 cap, .func (.func 147) #[] #[]] w (Gives (.int .i64 (-1)) w) := by
 have HC := Lib.hid (cl147_any pc A n c w hc h0)
 go_enter Tryz.func144, Tryz.ntmps144
 go_wp2_with fail
 refine wp_loop_rounds 2 ?_
 rw [rounds_succ]
 go_wp2_with (go_at_call 147; refine HC.out.mono ?_; rintro e w1 ⟨rfl, hb⟩)
 rw [rounds_succ]
 go_wp2_with fail
 go_ret
 exact ⟨rfl, hb⟩
theorem delete147 (lg pc cap : Nat) (A : Option Addr) (n c : Nat) (w : World) (hl : w.cell? ⟨lg, 0, none⟩ = some (vPtr pc)) (hc : w.cell? ⟨pc, 3, none⟩ = some (.slice A n c)) (h0 : 0 < n) :
 Calls Tryz.prog 146 #[.slice (some ⟨lg, 0, none⟩) 1 cap, .func (.func 147) #[] #[]] w (Gives (.slice (some ⟨lg, 0, none⟩) 1 cap) w) := by
 have HC := Lib.hid (index147 lg pc cap A n c w hl hc h0)
 go_enter Tryz.func146, Tryz.ntmps146
 go_wp2_with (go_at_call 144; refine HC.out.mono ?_; rintro e w1 ⟨rfl, hb⟩)
 go_ret
 exact ⟨rfl, hb⟩
end Go.Proofs.YteabgcollokgjaaGreatDoor
