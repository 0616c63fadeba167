/- Contracts: SortFunc at rows and at IDs. -/
import Derived.Test.YtjglpmcekbjoaaaJ
import Derived.Test.YtjglpmcekbjoaaaShelf
namespace Go.Proofs.Ytjglpmcekbjoaaa
open Go.RowKit Go.Shelf Go.Sort

section
variable {α : Type} [Inhabited α] {enc : α → List Value} {k : Nat} {d : α}
theorem bang_getD (xs : List α) (j : Nat) (hj : j < xs.length) : xs.toArray[j]! = xs.getD j d := by
  rw [List.getElem!_toArray, List.getD_eq_getElem?_getD, List.getElem?_eq_getElem hj, getElem!_pos xs j hj]
  rfl
theorem holdsK_of_own (hk : ∀ y, (enc y).length = k) (hk0 : 0 < k) {w : World} {base g n cap : Nat} {e : TypeId} {xs : List α} (h : w.ownsRow base e k (.slice (some ⟨g, 0, none⟩) n cap) n (xs.flatMap enc)) : HoldsK enc k w g 0 xs.toArray := by
  have hl := h.1
  rw [flat_len hk] at hl
  intro j hj
  rw [size_flatK] at hj
  have hj' : j < xs.length * k := by simpa using hj
  refine ⟨?_, h.frozenAt _⟩
  have hq : j / k < xs.length := by rw [Nat.div_lt_iff_lt_mul hk0]; exact hj'
  have hm : j % k < k := Nat.mod_lt _ hk0
  have hdm : j / k * k + j % k = j := by rw [Nat.mul_comm]; exact Nat.div_add_mod j k
  rw [get_flatK _ _ _ _ hj, Nat.zero_add, h.cellAt j (by omega), bang_getD (d := default) xs _ hq]
  have h1 := flat_at hk default xs (j / k) (j % k) hq hm
  rw [hdm] at h1
  rw [h1]
  have hlt : j % k < (enc (xs.getD (j / k) default)).length := by rw [hk]; exact hm
  rw [List.getElem?_eq_getElem hlt, getElem!_pos (enc (xs.getD (j / k) default)) (j % k) hlt]
  rfl
theorem Rd.of_holds (hk : ∀ y, (enc y).length = k) {w : World} {g x : Nat} {xs : List α} (h : HoldsK enc k w g 0 xs.toArray) (hg : g < w.heap.size) (hx : g ≠ x) : Rd enc k d w x (some ⟨g, 0, none⟩) xs := by
  intro _
  refine ⟨g, 0, rfl, hg, hx, fun j hj i v hi => ?_⟩
  have hik : i < k := by
    have := (List.getElem?_eq_some_iff.1 hi).1
    rwa [hk] at this
  have h0 := (h.cell (i := j) (c := i) (by simpa using hj) hik).1
  rw [bang_getD (d := d) xs j hj] at h0
  have hlt := (List.getElem?_eq_some_iff.1 hi).1
  rw [getElem!_pos (enc (xs.getD j d)) i hlt] at h0
  rw [h0, ← hi, List.getElem?_eq_getElem hlt]

def SortPost (enc : α → List Value) (k : Nat) (d : α) (cf : α → α → Int) (base g x : Nat) (xs : List α) (w : World) (e : Ending) (w' : World) : Prop :=
  e = .returned (.tuple #[]) ∧ (∃ ys, ys.Perm xs ∧ ys.Pairwise (fun a b => ltOf cf b a = false) ∧ Rd enc k d w' x (some ⟨g, 0, none⟩) ys) ∧ Below base w w'

theorem sort_post (hk : ∀ y, (enc y).length = k) {cf : α → α → Int} {f : FuncId} {base g n cap x : Nat} {e : TypeId} {xs : List α} {w : World} {gv : Value} (h : w.ownsRow base e k (.slice (some ⟨g, 0, none⟩) n cap) n (xs.flatMap enc)) (hk0 : 0 < k) (hx : x < base)
    (hcon : Calls Try.prog f #[.slice (some ⟨g, 0, none⟩) xs.toArray.size cap, gv] w fun e w' => e = .returned (.tuple #[]) ∧ ∃ d' m os, PermIn 0 xs.toArray.size xs.toArray d' ∧ SortedIn (ltOf cf) 0 xs.toArray.size d' ∧ w' = sortWorldK enc k w g 0 m d' os) :
    Calls Try.prog f #[.slice (some ⟨g, 0, none⟩) n cap, gv] w (SortPost enc k d cf base g x xs w) := by
  have hl := h.1
  rw [flat_len hk] at hl
  have hnx : n = xs.toArray.size := by
    have : xs.length = n := Nat.eq_of_mul_eq_mul_right hk0 hl
    simp [this]
  have hg := h.lt g rfl
  rw [← hnx] at hcon
  refine Calls.mono hcon ?_
  rintro e w' ⟨he, d', m, os, hp, hs, rfl⟩
  obtain ⟨hsz, _, hperm⟩ := hp
  rw [hnx, Array.extract_size, show xs.toArray.size = d'.size from hsz.symm, Array.extract_size] at hperm
  have hH := holdsK_putRowK (enc := enc) (k := k) (Sort.ahead w m) g 0 xs.toArray d' (holdsK_of_own hk hk0 h) hsz
  have hgrow : w.grownBy (sortWorldK enc k w g 0 m d' os) (some g) := by
    refine ⟨rfl, rfl, rfl, by simp [sortWorldK, putRowK], fun j hj hne => ?_⟩
    unfold sortWorldK
    rw [heap_grow_old _ _ (by simpa [putRowK] using hj)]
    have : g ≠ j := fun e => hne (by rw [e])
    simp [putRowK, putRow, mapBlock, Sort.ahead, Array.getElem?_modify, this]
  have hg2 : g < (sortWorldK enc k w g 0 m d' os).heap.size := Nat.lt_of_lt_of_le hg.2 hgrow.size
  refine ⟨he, ⟨d'.toList, by simpa using hperm, ?_, Rd.of_holds hk ?_ hg2 (by omega)⟩, (Below.refl _ _).grown hgrow (by omega) (fun q hq => by cases hq; exact hg.1)⟩
  · rw [List.pairwise_iff_getElem]
    intro i j hi hj hij
    have hi' : i < d'.size := by simpa using hi
    have hj' : j < d'.size := by simpa using hj
    have := hs i j (Nat.zero_le _) hij (by omega)
    rw [getElem!_pos d' i hi', getElem!_pos d' j hj'] at this
    simpa using this
  · exact holdsK_grow (enc := enc) (k := k) _ _ _ _ _ (by simpa [putRowK] using hg.2) hH
end

theorem swoID : SWO (ltOf cmpID) where
  irrefl x := by rw [lt_cmpID]; simp [ltID]
  trans x y z h1 h2 := by rw [lt_cmpID] at *; simp [ltID] at *; omega
  ntrans x y z h1 h2 := by rw [lt_cmpID] at *; simp [ltID] at *; omega
def cmpCT (x y : CT) : Int := cmpID x.1 y.1
theorem lt_cmpCT (x y : CT) : ltOf cmpCT x y = ltID x.1 y.1 := lt_cmpID x.1 y.1
theorem swoCT : SWO (ltOf cmpCT) where
  irrefl x := swoID.irrefl x.1
  trans x y z h1 h2 := swoID.trans x.1 y.1 z.1 h1 h2
  ntrans x y z h1 h2 := swoID.ntrans x.1 y.1 z.1 h1 h2

theorem grow_grow2 (W : World) (a b : Obj) (q : Nat) (os : Array Obj) : grow (((W.alloc a).alloc b).drewN q) os = grow (W.drewN q) (#[a, b] ++ os) := by
  show grow (((W.drewN q).alloc a).alloc b) os = _
  rw [alloc_eq_grow, alloc_eq_grow, grow_grow, grow_grow, ← Array.append_assoc]
  rfl

set_option maxHeartbeats 1000000 in
theorem closure61 (x1 x2 x3 y1 y2 y3 : Int) (W : World) : Calls Try.prog 61 #[.agg #[.int .u64 x1, .int .i64 x2, .int .i64 x3], .agg #[.int .u64 y1, .int .i64 y2, .int .i64 y3]] W fun e w' => e = .returned (.int .i64 (cmpCT ((x1, x2), x3) ((y1, y2), y3))) ∧ ∃ q os', w' = grow (W.drewN q) os' := by
  have H := Lib.hid (fun W' => compareIDs_grow x1 x2 y1 y2 W')
  unfold cmpCT
  generalize cmpID ((x1, x2), x3).1 ((y1, y2), y3).1 = r at H ⊢
  go_enter Try.func61, Try.ntmps61
  go_wp2_with fail
  refine (H.out _).mono ?_
  rintro e w' ⟨rfl, q, os, rfl⟩
  go_wp2_with fail
  go_ret
  exact ⟨rfl, q, _, grow_grow2 W _ _ q os⟩

theorem sortC_any (base g n cap x : Nat) (xs : List CT) (w : World) (h : w.ownsRow base 66 3 (.slice (some ⟨g, 0, none⟩) n cap) n (xs.flatMap encC)) (hx : x < base) (hn : xs.length ≤ 4294967296) :
    Calls Try.prog 60 #[.slice (some ⟨g, 0, none⟩) n cap, .func (.func 61) #[] #[]] w (SortPost encC 3 ct0 cmpCT base g x xs w) := by
  have hg := h.lt g rfl
  have eg : ∀ args w, (callFunc 61 args).run Try.prog w = .ok (.enter 61 args) w := enters_of Try.func61 (by kernel_rfl) rfl
  exact sort_post encC_len h (by omega) hx (AnyQ.slices_SortFunc Try.lay60 3 Try.isAgg66 Try.sizeOf66 encC (fun _ => rfl) encC_one cmpCT swoCT 61 #[] g 0 cap xs.toArray w eg
    (fun _ _ _ _ x y => closure61 x.1.1 x.1.2 x.2 y.1.1 y.1.2 y.2 _) (holdsK_of_own encC_len (by omega) h) hg.2 (by simp; omega))

theorem sortID_any (base g n cap x : Nat) (xs : List ID) (w : World) (h : w.ownsRow base 43 2 (.slice (some ⟨g, 0, none⟩) n cap) n (xs.flatMap encID)) (hx : x < base) (hn : xs.length ≤ 4294967296) :
    Calls Try.prog 50 #[.slice (some ⟨g, 0, none⟩) n cap, .func (.func 51) #[] #[]] w (SortPost encID 2 (0, 0) cmpID base g x xs w) := by
  have hg := h.lt g rfl
  have eg : ∀ args w, (callFunc 51 args).run Try.prog w = .ok (.enter 51 args) w := enters_of Try.func51 (by kernel_rfl) rfl
  exact sort_post encID_len h (by omega) hx (AnyQ.slices_SortFunc Try.lay50 2 Try.isAgg43 Try.sizeOf43 encID (fun _ => rfl) encID_one cmpID swoID 51 #[] g 0 cap xs.toArray w eg
    (fun _ _ _ _ x y => compareIDs_grow x.1 x.2 y.1 y.2 _) (holdsK_of_own encID_len (by omega) h) hg.2 (by simp; omega))
end Go.Proofs.Ytjglpmcekbjoaaa
