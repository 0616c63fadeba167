/- Contracts of the walk, part 13. -/
import Derived.Shelf.SlSortCmp.NoneTotal
import Derived.Shelf.SlicesE.Clone
import Derived.Ground.SlsfProg
import Derived.Ground.SlgnProg
import Derived.Ground.NamesProg
import Derived.Shelf.SlGeneric
import Derived.Test.YtmiknfneeipkeaaGreatProg
import Derived.Test.YtmiknfneeipkeaaGreatQ05
import Derived.Test.YtmiknfneeipkeaaGreatQ12
namespace Go.Proofs
open Go.Shelf
def Tryz.lay82_ren : Go.Shelf.Ren := ⟨fun | 6 => 82 | 15 => 127 | 14 => 126 | 28 => 164 | 29 => 165 | 20 => 156 | 21 => 157 | 22 => 158 | 23 => 159 | 24 => 160 | 25 => 161 | 26 => 162 | 27 => 163 | 46 => 199 | 47 => 200 | 48 => 201 | 49 => 202 | 50 => 203 | 57 => 224 | n => n, fun | 22 => 31 | 24 => 36 | 25 => 115 | 3 => 3 | 39 => 174 | 0 => 0 | 53 => 245 | 55 => 34 | 4 => 4 | 46 => 239 | 45 => 238 | 50 => 113 | 5 => 5 | 9 => 9 | 66 => 275 | 70 => 279 | 76 => 295 | 77 => 296 | n => n, fun | n => n⟩
theorem Tryz.lay82 : Go.Proofs.SlLaysF0.n6 Tryz.prog Tryz.lay82_ren := {
  mixed := by kernel_rfl
  f6 := ⟨Tryz.f82.name, by decide, Tryz.func82.trans (congrArg some (by kernel_rfl))⟩
  f14 := ⟨Tryz.f126.name, by decide, Tryz.func126.trans (congrArg some (by kernel_rfl))⟩
  f15 := Tryz.func127.trans (congrArg some (by kernel_rfl))
  f20 := ⟨Tryz.f156.name, by decide, Tryz.func156.trans (congrArg some (by kernel_rfl))⟩
  f21 := ⟨Tryz.f157.name, by decide, Tryz.func157.trans (congrArg some (by kernel_rfl))⟩
  f22 := ⟨Tryz.f158.name, by decide, Tryz.func158.trans (congrArg some (by kernel_rfl))⟩
  f23 := ⟨Tryz.f159.name, by decide, Tryz.func159.trans (congrArg some (by kernel_rfl))⟩
  f24 := ⟨Tryz.f160.name, by decide, Tryz.func160.trans (congrArg some (by kernel_rfl))⟩
  f25 := ⟨Tryz.f161.name, by decide, Tryz.func161.trans (congrArg some (by kernel_rfl))⟩
  f26 := ⟨Tryz.f162.name, by decide, Tryz.func162.trans (congrArg some (by kernel_rfl))⟩
  f27 := ⟨Tryz.f163.name, by decide, Tryz.func163.trans (congrArg some (by kernel_rfl))⟩
  f28 := Tryz.func164.trans (congrArg some (by kernel_rfl))
  f29 := Tryz.func165.trans (congrArg some (by kernel_rfl))
  f46 := ⟨Tryz.f199.name, by decide, Tryz.func199.trans (congrArg some (by kernel_rfl))⟩
  f47 := Tryz.func200.trans (congrArg some (by kernel_rfl))
  f48 := Tryz.func201.trans (congrArg some (by kernel_rfl))
  f49 := ⟨Tryz.f202.name, by decide, Tryz.func202.trans (congrArg some (by kernel_rfl))⟩
  f50 := ⟨Tryz.f203.name, by decide, Tryz.func203.trans (congrArg some (by kernel_rfl))⟩
  f57 := ⟨Tryz.f224.name, by decide, Tryz.func224.trans (congrArg some (by kernel_rfl))⟩
  t0 := Tryz.underlying0
  a0 := Tryz.isAgg0
  z0 := Tryz.sizeOf0
  v0 := Tryz.zeroValue0
  t3 := Tryz.underlying3
  a3 := Tryz.isAgg3
  z3 := Tryz.sizeOf3
  v3 := Tryz.zeroValue3
  t4 := Tryz.underlying4
  a4 := Tryz.isAgg4
  z4 := Tryz.sizeOf4
  v4 := Tryz.zeroValue4
  t5 := Tryz.underlying5
  a5 := Tryz.isAgg5
  z5 := Tryz.sizeOf5
  v5 := Tryz.zeroValue5
  t9 := Tryz.underlying9
  a9 := Tryz.isAgg9
  z9 := Tryz.sizeOf9
  v9 := Tryz.zeroValue9
  t22 := Tryz.underlying31
  a22 := Tryz.isAgg31
  z22 := Tryz.sizeOf31
  v22 := Tryz.zeroValue31
  t25 := Tryz.underlying115
  a25 := Tryz.isAgg115
  z25 := Tryz.sizeOf115
  v25 := Tryz.zeroValue115
  t39 := Tryz.underlying174
  a39 := Tryz.isAgg174
  z39 := Tryz.sizeOf174
  v39 := Tryz.zeroValue174
  t45 := Tryz.underlying238
  a45 := Tryz.isAgg238
  z45 := Tryz.sizeOf238
  v45 := Tryz.zeroValue238
  t46 := Tryz.underlying239
  a46 := Tryz.isAgg239
  z46 := Tryz.sizeOf239
  v46 := Tryz.zeroValue239
  t50 := Tryz.underlying113
  a50 := Tryz.isAgg113
  z50 := Tryz.sizeOf113
  v50 := Tryz.zeroValue113
  t53 := Tryz.underlying245
  a53 := Tryz.isAgg245
  z53 := Tryz.sizeOf245
  v53 := Tryz.zeroValue245
  t55 := Tryz.underlying34
  a55 := Tryz.isAgg34
  z55 := Tryz.sizeOf34
  v55 := Tryz.zeroValue34
  t66 := Tryz.underlying275
  a66 := Tryz.isAgg275
  z66 := Tryz.sizeOf275
  v66 := Tryz.zeroValue275
  t70 := Tryz.underlying279
  a70 := Tryz.isAgg279
  z70 := Tryz.sizeOf279
  v70 := Tryz.zeroValue279
  t76 := Tryz.underlying295
  a76 := Tryz.isAgg295
  z76 := Tryz.sizeOf295
  v76 := Tryz.zeroValue295
  t77 := Tryz.underlying296
  a77 := Tryz.isAgg296
  z77 := Tryz.sizeOf296
  v77 := Tryz.zeroValue296 }
def Tryz.lay109_ren : Go.Shelf.Ren := ⟨fun | 6 => 109 | 15 => 127 | 14 => 145 | 28 => 164 | 29 => 165 | 20 => 184 | 21 => 185 | 22 => 186 | 23 => 187 | 24 => 188 | 25 => 189 | 26 => 190 | 27 => 191 | 46 => 217 | 47 => 200 | 48 => 201 | 49 => 218 | 50 => 219 | 57 => 230 | n => n, fun | 22 => 49 | 24 => 125 | 25 => 178 | 3 => 3 | 39 => 174 | 0 => 0 | 53 => 245 | 55 => 34 | 4 => 4 | 46 => 239 | 45 => 238 | 50 => 113 | 5 => 5 | 9 => 9 | 66 => 275 | 70 => 279 | 76 => 295 | 77 => 296 | n => n, fun | n => n⟩
theorem Tryz.lay109 : Go.Proofs.SlLaysF0.n6 Tryz.prog Tryz.lay109_ren := {
  mixed := by kernel_rfl
  f6 := ⟨Tryz.f109.name, by decide, Tryz.func109.trans (congrArg some (by kernel_rfl))⟩
  f14 := ⟨Tryz.f145.name, by decide, Tryz.func145.trans (congrArg some (by kernel_rfl))⟩
  f15 := Tryz.func127.trans (congrArg some (by kernel_rfl))
  f20 := ⟨Tryz.f184.name, by decide, Tryz.func184.trans (congrArg some (by kernel_rfl))⟩
  f21 := ⟨Tryz.f185.name, by decide, Tryz.func185.trans (congrArg some (by kernel_rfl))⟩
  f22 := ⟨Tryz.f186.name, by decide, Tryz.func186.trans (congrArg some (by kernel_rfl))⟩
  f23 := ⟨Tryz.f187.name, by decide, Tryz.func187.trans (congrArg some (by kernel_rfl))⟩
  f24 := ⟨Tryz.f188.name, by decide, Tryz.func188.trans (congrArg some (by kernel_rfl))⟩
  f25 := ⟨Tryz.f189.name, by decide, Tryz.func189.trans (congrArg some (by kernel_rfl))⟩
  f26 := ⟨Tryz.f190.name, by decide, Tryz.func190.trans (congrArg some (by kernel_rfl))⟩
  f27 := ⟨Tryz.f191.name, by decide, Tryz.func191.trans (congrArg some (by kernel_rfl))⟩
  f28 := Tryz.func164.trans (congrArg some (by kernel_rfl))
  f29 := Tryz.func165.trans (congrArg some (by kernel_rfl))
  f46 := ⟨Tryz.f217.name, by decide, Tryz.func217.trans (congrArg some (by kernel_rfl))⟩
  f47 := Tryz.func200.trans (congrArg some (by kernel_rfl))
  f48 := Tryz.func201.trans (congrArg some (by kernel_rfl))
  f49 := ⟨Tryz.f218.name, by decide, Tryz.func218.trans (congrArg some (by kernel_rfl))⟩
  f50 := ⟨Tryz.f219.name, by decide, Tryz.func219.trans (congrArg some (by kernel_rfl))⟩
  f57 := ⟨Tryz.f230.name, by decide, Tryz.func230.trans (congrArg some (by kernel_rfl))⟩
  t0 := Tryz.underlying0
  a0 := Tryz.isAgg0
  z0 := Tryz.sizeOf0
  v0 := Tryz.zeroValue0
  t3 := Tryz.underlying3
  a3 := Tryz.isAgg3
  z3 := Tryz.sizeOf3
  v3 := Tryz.zeroValue3
  t4 := Tryz.underlying4
  a4 := Tryz.isAgg4
  z4 := Tryz.sizeOf4
  v4 := Tryz.zeroValue4
  t5 := Tryz.underlying5
  a5 := Tryz.isAgg5
  z5 := Tryz.sizeOf5
  v5 := Tryz.zeroValue5
  t9 := Tryz.underlying9
  a9 := Tryz.isAgg9
  z9 := Tryz.sizeOf9
  v9 := Tryz.zeroValue9
  t22 := Tryz.underlying49
  a22 := Tryz.isAgg49
  z22 := Tryz.sizeOf49
  v22 := Tryz.zeroValue49
  t25 := Tryz.underlying178
  a25 := Tryz.isAgg178
  z25 := Tryz.sizeOf178
  v25 := Tryz.zeroValue178
  t39 := Tryz.underlying174
  a39 := Tryz.isAgg174
  z39 := Tryz.sizeOf174
  v39 := Tryz.zeroValue174
  t45 := Tryz.underlying238
  a45 := Tryz.isAgg238
  z45 := Tryz.sizeOf238
  v45 := Tryz.zeroValue238
  t46 := Tryz.underlying239
  a46 := Tryz.isAgg239
  z46 := Tryz.sizeOf239
  v46 := Tryz.zeroValue239
  t50 := Tryz.underlying113
  a50 := Tryz.isAgg113
  z50 := Tryz.sizeOf113
  v50 := Tryz.zeroValue113
  t53 := Tryz.underlying245
  a53 := Tryz.isAgg245
  z53 := Tryz.sizeOf245
  v53 := Tryz.zeroValue245
  t55 := Tryz.underlying34
  a55 := Tryz.isAgg34
  z55 := Tryz.sizeOf34
  v55 := Tryz.zeroValue34
  t66 := Tryz.underlying275
  a66 := Tryz.isAgg275
  z66 := Tryz.sizeOf275
  v66 := Tryz.zeroValue275
  t70 := Tryz.underlying279
  a70 := Tryz.isAgg279
  z70 := Tryz.sizeOf279
  v70 := Tryz.zeroValue279
  t76 := Tryz.underlying295
  a76 := Tryz.isAgg295
  z76 := Tryz.sizeOf295
  v76 := Tryz.zeroValue295
  t77 := Tryz.underlying296
  a77 := Tryz.isAgg296
  z77 := Tryz.sizeOf296
  v77 := Tryz.zeroValue296 }
def Tryz.lay87_ren : Go.Shelf.Ren := ⟨fun | 6 => 87 | 15 => 127 | 14 => 129 | 28 => 164 | 29 => 165 | 20 => 168 | 21 => 169 | 22 => 170 | 23 => 171 | 24 => 172 | 25 => 173 | 26 => 174 | 27 => 175 | 46 => 205 | 47 => 200 | 48 => 201 | 49 => 206 | 50 => 207 | 57 => 226 | n => n, fun | 22 => 23 | 24 => 42 | 25 => 148 | 3 => 3 | 39 => 174 | 0 => 0 | 53 => 245 | 55 => 34 | 4 => 4 | 46 => 239 | 45 => 238 | 50 => 113 | 5 => 5 | 9 => 9 | 66 => 275 | 70 => 279 | 76 => 295 | 77 => 296 | n => n, fun | n => n⟩
theorem Tryz.lay87 : Go.Proofs.SlLaysF0.n6 Tryz.prog Tryz.lay87_ren := {
  mixed := by kernel_rfl
  f6 := ⟨Tryz.f87.name, by decide, Tryz.func87.trans (congrArg some (by kernel_rfl))⟩
  f14 := ⟨Tryz.f129.name, by decide, Tryz.func129.trans (congrArg some (by kernel_rfl))⟩
  f15 := Tryz.func127.trans (congrArg some (by kernel_rfl))
  f20 := ⟨Tryz.f168.name, by decide, Tryz.func168.trans (congrArg some (by kernel_rfl))⟩
  f21 := ⟨Tryz.f169.name, by decide, Tryz.func169.trans (congrArg some (by kernel_rfl))⟩
  f22 := ⟨Tryz.f170.name, by decide, Tryz.func170.trans (congrArg some (by kernel_rfl))⟩
  f23 := ⟨Tryz.f171.name, by decide, Tryz.func171.trans (congrArg some (by kernel_rfl))⟩
  f24 := ⟨Tryz.f172.name, by decide, Tryz.func172.trans (congrArg some (by kernel_rfl))⟩
  f25 := ⟨Tryz.f173.name, by decide, Tryz.func173.trans (congrArg some (by kernel_rfl))⟩
  f26 := ⟨Tryz.f174.name, by decide, Tryz.func174.trans (congrArg some (by kernel_rfl))⟩
  f27 := ⟨Tryz.f175.name, by decide, Tryz.func175.trans (congrArg some (by kernel_rfl))⟩
  f28 := Tryz.func164.trans (congrArg some (by kernel_rfl))
  f29 := Tryz.func165.trans (congrArg some (by kernel_rfl))
  f46 := ⟨Tryz.f205.name, by decide, Tryz.func205.trans (congrArg some (by kernel_rfl))⟩
  f47 := Tryz.func200.trans (congrArg some (by kernel_rfl))
  f48 := Tryz.func201.trans (congrArg some (by kernel_rfl))
  f49 := ⟨Tryz.f206.name, by decide, Tryz.func206.trans (congrArg some (by kernel_rfl))⟩
  f50 := ⟨Tryz.f207.name, by decide, Tryz.func207.trans (congrArg some (by kernel_rfl))⟩
  f57 := ⟨Tryz.f226.name, by decide, Tryz.func226.trans (congrArg some (by kernel_rfl))⟩
  t0 := Tryz.underlying0
  a0 := Tryz.isAgg0
  z0 := Tryz.sizeOf0
  v0 := Tryz.zeroValue0
  t3 := Tryz.underlying3
  a3 := Tryz.isAgg3
  z3 := Tryz.sizeOf3
  v3 := Tryz.zeroValue3
  t4 := Tryz.underlying4
  a4 := Tryz.isAgg4
  z4 := Tryz.sizeOf4
  v4 := Tryz.zeroValue4
  t5 := Tryz.underlying5
  a5 := Tryz.isAgg5
  z5 := Tryz.sizeOf5
  v5 := Tryz.zeroValue5
  t9 := Tryz.underlying9
  a9 := Tryz.isAgg9
  z9 := Tryz.sizeOf9
  v9 := Tryz.zeroValue9
  t22 := Tryz.underlying23
  a22 := Tryz.isAgg23
  z22 := Tryz.sizeOf23
  v22 := Tryz.zeroValue23
  t25 := Tryz.underlying148
  a25 := Tryz.isAgg148
  z25 := Tryz.sizeOf148
  v25 := Tryz.zeroValue148
  t39 := Tryz.underlying174
  a39 := Tryz.isAgg174
  z39 := Tryz.sizeOf174
  v39 := Tryz.zeroValue174
  t45 := Tryz.underlying238
  a45 := Tryz.isAgg238
  z45 := Tryz.sizeOf238
  v45 := Tryz.zeroValue238
  t46 := Tryz.underlying239
  a46 := Tryz.isAgg239
  z46 := Tryz.sizeOf239
  v46 := Tryz.zeroValue239
  t50 := Tryz.underlying113
  a50 := Tryz.isAgg113
  z50 := Tryz.sizeOf113
  v50 := Tryz.zeroValue113
  t53 := Tryz.underlying245
  a53 := Tryz.isAgg245
  z53 := Tryz.sizeOf245
  v53 := Tryz.zeroValue245
  t55 := Tryz.underlying34
  a55 := Tryz.isAgg34
  z55 := Tryz.sizeOf34
  v55 := Tryz.zeroValue34
  t66 := Tryz.underlying275
  a66 := Tryz.isAgg275
  z66 := Tryz.sizeOf275
  v66 := Tryz.zeroValue275
  t70 := Tryz.underlying279
  a70 := Tryz.isAgg279
  z70 := Tryz.sizeOf279
  v70 := Tryz.zeroValue279
  t76 := Tryz.underlying295
  a76 := Tryz.isAgg295
  z76 := Tryz.sizeOf295
  v76 := Tryz.zeroValue295
  t77 := Tryz.underlying296
  a77 := Tryz.isAgg296
  z77 := Tryz.sizeOf296
  v77 := Tryz.zeroValue296 }
end Go.Proofs
namespace Go.Proofs.YtmiknfneeipkeaaGreat
open Go.RowKit Go.Shelf Go.Sort
attribute [local go_sem] wext_cell
section
variable {α : Type} [Inhabited α] {enc : α → List Value} {k : Nat} {d : α}
theorem bang_getD (xs : List α) (j : Nat) (hj : j < xs.length) : xs.toArray[j]! = xs.getD j d := by
  rw [List.getElem!_toArray, List.getD_eq_getElem?_getD, List.getElem?_eq_getElem hj, getElem!_pos xs j hj]
  rfl
theorem holdsK_of_own (hk : ∀ y, (enc y).length = k) (hk0 : 0 < k) {w : World} {base g n cap : Nat} {e : TypeId} {xs : List α} (h : w.ownsRow base e k (.slice (some ⟨g, 0, none⟩) n cap) n (xs.flatMap enc)) : HoldsK enc k w g 0 xs.toArray := by
  have hl := h.1
  rw [flat_len hk] at hl
  intro j hj
  rw [size_flatK] at hj
  have hj' : j < xs.length * k := by simpa using hj
  refine ⟨?_, h.frozenAt _⟩
  have hq : j / k < xs.length := by rw [Nat.div_lt_iff_lt_mul hk0]; exact hj'
  have hm : j % k < k := Nat.mod_lt _ hk0
  have hdm : j / k * k + j % k = j := by rw [Nat.mul_comm]; exact Nat.div_add_mod j k
  rw [get_flatK _ _ _ _ hj, Nat.zero_add, h.cellAt j (by omega), bang_getD (d := default) xs _ hq]
  have h1 := flat_at hk default xs (j / k) (j % k) hq hm
  rw [hdm] at h1
  rw [h1]
  have hlt : j % k < (enc (xs.getD (j / k) default)).length := by rw [hk]; exact hm
  rw [List.getElem?_eq_getElem hlt, getElem!_pos (enc (xs.getD (j / k) default)) (j % k) hlt]
  rfl
theorem Rd.of_holds (hk : ∀ y, (enc y).length = k) {w : World} {g x : Nat} {xs : List α} (h : HoldsK enc k w g 0 xs.toArray) (hg : g < w.heap.size) (hx : g ≠ x) : Rd enc k d w x (some ⟨g, 0, none⟩) xs := by
  intro _
  refine ⟨g, 0, rfl, hg, hx, fun j hj i v hi => ?_⟩
  have hik : i < k := by
    have := (List.getElem?_eq_some_iff.1 hi).1
    rwa [hk] at this
  have h0 := (h.cell (i := j) (c := i) (by simpa using hj) hik).1
  rw [bang_getD (d := d) xs j hj] at h0
  have hlt := (List.getElem?_eq_some_iff.1 hi).1
  rw [getElem!_pos (enc (xs.getD j d)) i hlt] at h0
  rw [h0, ← hi, List.getElem?_eq_getElem hlt]

def SortPost (enc : α → List Value) (k : Nat) (d : α) (cf : α → α → Int) (base g x : Nat) (xs : List α) (w : World) (e : Ending) (w' : World) : Prop :=
  e = .returned (.tuple #[]) ∧ (∃ ys, ys.Perm xs ∧ ys.Pairwise (fun a b => ltOf cf b a = false) ∧ Rd enc k d w' x (some ⟨g, 0, none⟩) ys) ∧ Below base w w'

theorem sort_post (hk : ∀ y, (enc y).length = k) {cf : α → α → Int} {f : FuncId} {base g n cap x : Nat} {e : TypeId} {xs : List α} {w : World} {gv : Value} (h : w.ownsRow base e k (.slice (some ⟨g, 0, none⟩) n cap) n (xs.flatMap enc)) (hk0 : 0 < k) (hx : x < base)
    (hcon : Calls Tryz.prog f #[.slice (some ⟨g, 0, none⟩) xs.toArray.size cap, gv] w fun e w' => e = .returned (.tuple #[]) ∧ ∃ d' m os, PermIn 0 xs.toArray.size xs.toArray d' ∧ SortedIn (ltOf cf) 0 xs.toArray.size d' ∧ w' = sortWorldK enc k w g 0 m d' os) :
    Calls Tryz.prog f #[.slice (some ⟨g, 0, none⟩) n cap, gv] w (SortPost enc k d cf base g x xs w) := by
  have hl := h.1
  rw [flat_len hk] at hl
  have hnx : n = xs.toArray.size := by
    have : xs.length = n := Nat.eq_of_mul_eq_mul_right hk0 hl
    simp [this]
  have hg := h.lt g rfl
  rw [← hnx] at hcon
  refine Calls.mono hcon ?_
  rintro e w' ⟨he, d', m, os, hp, hs, rfl⟩
  obtain ⟨hsz, _, hperm⟩ := hp
  rw [hnx, Array.extract_size, show xs.toArray.size = d'.size from hsz.symm, Array.extract_size] at hperm
  have hH := holdsK_putRowK (enc := enc) (k := k) (Sort.ahead w m) g 0 xs.toArray d' (holdsK_of_own hk hk0 h) hsz
  have hgrow : w.grownBy (sortWorldK enc k w g 0 m d' os) (some g) := by
    refine ⟨rfl, rfl, rfl, by simp [sortWorldK, putRowK], fun j hj hne => ?_⟩
    unfold sortWorldK
    rw [heap_grow_old _ _ (by simpa [putRowK] using hj)]
    have : g ≠ j := fun e => hne (by rw [e])
    simp [putRowK, putRow, mapBlock, Sort.ahead, Array.getElem?_modify, this]
  have hg2 : g < (sortWorldK enc k w g 0 m d' os).heap.size := Nat.lt_of_lt_of_le hg.2 hgrow.size
  refine ⟨he, ⟨d'.toList, by simpa using hperm, ?_, Rd.of_holds hk ?_ hg2 (by omega)⟩, (Below.refl _ _).grown hgrow (by omega) (fun q hq => by cases hq; exact hg.1)⟩
  · rw [List.pairwise_iff_getElem]
    intro i j hi hj hij
    have hi' : i < d'.size := by simpa using hi
    have hj' : j < d'.size := by simpa using hj
    have := hs i j (Nat.zero_le _) hij (by omega)
    rw [getElem!_pos d' i hi', getElem!_pos d' j hj'] at this
    simpa using this
  · exact holdsK_grow (enc := enc) (k := k) _ _ _ _ _ (by simpa [putRowK] using hg.2) hH
end
theorem sortIDc_any (base g n cap x : Nat) (xs : List ID) (w : World) (h : w.ownsRow base 36 2 (.slice (some ⟨g, 0, none⟩) n cap) n (xs.flatMap encID)) (hx : x < base) (hn : xs.length ≤ 4294967296) :
    Calls Tryz.prog 82 #[.slice (some ⟨g, 0, none⟩) n cap, .func (.func 55) #[] #[]] w (SortPost encID 2 (0, 0) cmpID base g x xs w) := by
  have hg := h.lt g rfl
  have eg : ∀ args w, (callFunc 55 args).run Tryz.prog w = .ok (.enter 55 args) w := enters_of Tryz.func55 (by kernel_rfl) rfl
  exact sort_post encID_len h (by omega) hx (AnyQ.slices_SortFunc Tryz.lay82 2 Tryz.isAgg36 Tryz.sizeOf36 encID (fun _ => rfl) encID_one cmpID swoID 55 #[] g 0 cap xs.toArray w eg
    (fun _ _ _ _ x y => acmp_grow x.1 x.2 y.1 y.2 _) (holdsK_of_own encID_len (by omega) h) hg.2 (by simp; omega))
end Go.Proofs.YtmiknfneeipkeaaGreat
namespace Go.Proofs.YtmiknfneeipkeaaGreat
open Go.RowKit Go.MapKept Go.ChangeMaps Go.Shelf Go.Sort
attribute [local go_sem] wext_cell
def cmpCT (x y : CT) : Int := cmpID x.1 y.1
theorem lt_cmpCT (x y : CT) : ltOf cmpCT x y = ltID x.1 y.1 := lt_cmpID x.1 y.1
theorem swoCT : SWO (ltOf cmpCT) where
  irrefl x := swoID.irrefl x.1
  trans x y z h1 h2 := swoID.trans x.1 y.1 z.1 h1 h2
  ntrans x y z h1 h2 := swoID.ntrans x.1 y.1 z.1 h1 h2
theorem grow_grow2 (W : World) (a b : Obj) (q : Nat) (os : Array Obj) : grow (((W.alloc a).alloc b).drewN q) os = grow (W.drewN q) (#[a, b] ++ os) := by
  show grow (((W.drewN q).alloc a).alloc b) os = _
  rw [alloc_eq_grow, alloc_eq_grow, grow_grow, grow_grow, ← Array.append_assoc]
  rfl
set_option maxHeartbeats 1000000 in
theorem closure61 (x1 x2 x3 y1 y2 y3 : Int) (W : World) : Calls Tryz.prog 110 #[.agg #[.int .u64 x1, .int .i64 x2, .int .i64 x3], .agg #[.int .u64 y1, .int .i64 y2, .int .i64 y3]] W fun e w' => e = .returned (.int .i64 (cmpCT ((x1, x2), x3) ((y1, y2), y3))) ∧ ∃ q os', w' = grow (W.drewN q) os' := by
  have H := Lib.hid (fun W' => compareIDs_grow x1 x2 y1 y2 W')
  unfold cmpCT
  generalize cmpID ((x1, x2), x3).1 ((y1, y2), y3).1 = r at H ⊢
  go_enter Tryz.func110, Tryz.ntmps110
  go_wp2_with fail
  refine (H.out _).mono ?_
  rintro e w' ⟨rfl, q, os, rfl⟩
  go_wp2_with fail
  go_ret
  exact ⟨rfl, q, _, grow_grow2 W _ _ q os⟩
theorem sortC_any (base g n cap x : Nat) (xs : List CT) (w : World) (h : w.ownsRow base 125 3 (.slice (some ⟨g, 0, none⟩) n cap) n (xs.flatMap encC)) (hx : x < base) (hn : xs.length ≤ 4294967296) :
    Calls Tryz.prog 109 #[.slice (some ⟨g, 0, none⟩) n cap, .func (.func 110) #[] #[]] w (SortPost encC 3 ct0 cmpCT base g x xs w) := by
  have hg := h.lt g rfl
  have eg : ∀ args w, (callFunc 110 args).run Tryz.prog w = .ok (.enter 110 args) w := enters_of Tryz.func110 (by kernel_rfl) rfl
  exact sort_post encC_len h (by omega) hx (AnyQ.slices_SortFunc Tryz.lay109 3 Tryz.isAgg125 Tryz.sizeOf125 encC (fun _ => rfl) encC_one cmpCT swoCT 110 #[] g 0 cap xs.toArray w eg
    (fun _ _ _ _ x y => closure61 x.1.1 x.1.2 x.2 y.1.1 y.1.2 y.2 _) (holdsK_of_own encC_len (by omega) h) hg.2 (by simp; omega))
def limB (L : List CT) : Bool := decide (L.length ≤ 4096) && L.all (fun c => decide (c.2 ≤ 1073741824))
/-- The rows ascend. -/
def Asc (T : List CT) : Prop := T.Pairwise (fun a b => ltID a.1 b.1 = true)
def TablePost (x : Nat) (L : List CT) (w : World) (e : Ending) (w' : World) : Prop :=
  Below w.heap.size w w' ∧ ((limB L = true ∧ ∃ (T : List CT) (A : Option Addr) (c : Nat), T.Perm L ∧ Asc T ∧ e = .returned (.tuple #[.slice A T.length c, .int .i64 0]) ∧ RdC w' x A T ∧ T.length ≤ c ∧ (∀ ad, A = some ad → w.heap.size ≤ ad.block ∧ ad.block < w'.heap.size)) ∨
    (limB L = false ∧ e = .returned (.tuple #[.slice none 0 0, .int .i64 281])))
theorem info125 : (Tryz.prog.info? 125).map (fun i => (i.zero, i.size, i.bytes)) = some (some (.agg #[.int .u64 0, .int .i64 0, .int .i64 0]), 3, 24) := by kernel_rfl
theorem mthree_new (W : World) (x y z : Value) (t : TypeId) (H : Nat) (hH : W.heap.size = H) : ∀ j u, [x, y, z][j]? = some u → (W.alloc (.cells #[x, y, z] t)).cell? ((⟨H, 0, none⟩ : Addr).add j) = some u := by
  subst hH
  intro j u hu
  have hc := fun i => (IsB.new W t #[x, y, z]).cell i
  match j, hu with
  | 0, hu => simp at hu; subst hu; simp [Addr.add, hc]
  | 1, hu => simp at hu; subst hu; simp [Addr.add, hc]
  | 2, hu => simp at hu; subst hu; simp [Addr.add, hc]
  | j + 3, hu => simp at hu
theorem asc_of_sorted {T : List CT} (hs : T.Pairwise (fun a b => ltOf cmpCT b a = false)) (hn : (T.map (·.1)).Nodup) : Asc T := by
  have h2 : T.Pairwise (fun a b => a.1 ≠ b.1) := by simpa [List.Nodup, List.pairwise_map] using hn
  refine (hs.and h2).imp ?_
  rintro ⟨⟨a1, a2⟩, a3⟩ ⟨⟨b1, b2⟩, b3⟩ ⟨h, hne⟩
  rw [lt_cmpCT] at h
  simp [ltID] at h hne ⊢
  omega
theorem mown_iter {w : World} {base : Nat} {e : TypeId} {size n : Nat} {v : Value} {xs : List Value} (h : w.ownsRow base e size v n xs) {r : Nat} {m : Option Nat} {s : Nat} {seen : Array Nat} {c : Nat} (hr : w.heap[r]? = some (.mapIter m s seen c)) : some r ≠ v.ownBlock := by
  rcases h.2 with ⟨rfl, _⟩ | ⟨g', cap, cur, rfl, _, hh, _⟩
  · simp [Value.ownBlock]
  · intro he
    have : r = g' := by simpa [Value.ownBlock] using he
    subst this
    rw [hr] at hh
    cases hh
theorem RIs.mown_ne {α β : Type} {ok : α → Prop} {kv : α → Value} {vv : β → Value} {w : World} {b r : Nat} {L done : List (α × β)} {cnt : Nat} (h : RIs ok kv vv w b r L done cnt) {base : Nat} {e : TypeId} {size n : Nat} {v : Value} {xs : List Value} (ho : w.ownsRow base e size v n xs) : some r ≠ v.ownBlock := by
  obtain ⟨es, clock, since, seen, c0, is, _, _, _, _, h5, _⟩ := h
  exact mown_iter ho h5
theorem MapIs.mown_ne {α β : Type} {ok : α → Prop} {kv : α → Value} {vv : β → Value} {w : World} {b : Nat} {L : List (α × β)} (h : MapIs ok kv vv w b L) {base : Nat} {e : TypeId} {size n : Nat} {v : Value} {xs : List Value} (ho : w.ownsRow base e size v n xs) : some b ≠ v.ownBlock := by
  obtain ⟨es, clock, h1, _⟩ := h
  rcases ho.2 with ⟨rfl, _⟩ | ⟨g', cap, cur, rfl, _, hh, _⟩
  · simp [Value.ownBlock]
  · intro he
    have : b = g' := by simpa [Value.ownBlock] using he
    subst this
    rw [h1] at hh
    cases hh
theorem wpList_next_ct (w : World) {ops : Array Oper} {rest : List Oper} {o : Oper} {a : Act} {Q : Exit → Act → World → Prop} (hg : o.guard = none) (it : Operand) (hop : o.op = Op.next it false) (b r : Nat) (L done : List CT) (cnt : Nat)
    (hit : a.eval it = .pointer (some ⟨r, 0, none⟩)) (h : RIs okID vID vN w b r L done cnt)
    (hDone : done.Perm L → wpList Tryz.prog ops Q rest (a.put o.dst (.tuple #[.bool false])) w)
    (hMore : ∀ (s z n : Int) (w' : World) (cnt' : Nat), ((s, z), n) ∈ L → RIs okID vID vN w' b r L (done ++ [((s, z), n)]) cnt' → cnt' < cnt → w.grownBy w' (some r) → Hid (w'.heap.size = w.heap.size) →
      (Instr.entry (.pointer (some ⟨r, 0, none⟩))).run Tryz.prog w' = .ok (.tuple #[.agg #[.int .u64 s, .int .i64 z], .int .i64 n]) w' → wpList Tryz.prog ops Q rest (a.put o.dst (.tuple #[.bool true, .agg #[.int .u64 s, .int .i64 z], .int .i64 n])) w') :
    wpList Tryz.prog ops Q (o :: rest) a w :=
  wpList_next_is w hg it hop b r L done cnt hit h hDone (fun c w' cnt' h1 h2 h3 h4 h5 h6 => hMore c.1.1 c.1.2 c.2 w' cnt' h1 h2 h3 h4 h5 h6)
theorem mnodup_le {l : List Nat} {n : Nat} (hn : l.Nodup) (h : ∀ i ∈ l, i < n) : l.length ≤ n := by
  have h2 : (l ++ (List.range n).filter (fun i => decide (i ∉ l))).Nodup := by
    refine List.nodup_append.2 ⟨hn, List.nodup_range.filter _, fun a ha b hb e => ?_⟩
    subst e
    simp at hb
    exact hb.2 ha
  have hp := (List.perm_ext_iff_of_nodup h2 (List.nodup_range (n := n))).2 (fun a => by
    simp only [List.mem_append, List.mem_filter, List.mem_range, decide_eq_true_eq]
    constructor
    · rintro (h1 | h1)
      · exact h a h1
      · exact h1.1
    · intro h1
      by_cases ha : a ∈ l
      · exact .inl ha
      · exact .inr ⟨h1, ha⟩)
  have := hp.length_eq
  rw [List.length_append, List.length_range] at this
  omega
theorem RIs.mlen {α β : Type} {ok : α → Prop} {kv : α → Value} {vv : β → Value} {w : World} {b r : Nat} {L done : List (α × β)} {cnt : Nat} (h : RIs ok kv vv w b r L done cnt) : done.length ≤ L.length := by
  obtain ⟨es, clock, since, seen, c0, is, _, _, _, _, _, _, _, _, _, hnd, _, hd⟩ := h
  have h1 : is.length = done.length := by
    have := congrArg List.length hd
    simpa using this
  have h2 : ∀ i ∈ is, i ∈ List.range L.length := by
    intro i hi
    have : L[i]? ∈ is.map (fun i => L[i]?) := List.mem_map.2 ⟨i, hi, rfl⟩
    rw [hd] at this
    obtain ⟨c, _, hc⟩ := List.mem_map.1 this
    exact List.mem_range.2 (List.getElem?_eq_some_iff.1 hc.symm).1
  have := mnodup_le hnd (fun i hi => List.mem_range.1 (h2 i hi))
  omega
set_option maxRecDepth 100000 in
set_option maxHeartbeats 4000000 in
theorem table_any (x b : Nat) (L : List CT) (w : World) (hm : Mp w b L) (hx : x < w.heap.size) (hn : L.length ≤ 1000000000000) :
    Calls Tryz.prog 58 #[.map (some b)] w (TablePost x L w) := by
  obtain ⟨i0, hi, hz0, hz1, hz2⟩ := info_parts info125
  have hlen : (Builtin.len_ #[118] 3 #[.map (some b)]).run Tryz.prog w = .ok (.int .i64 L.length) w := hm.len Tryz.underlying118 3
  have Hm := Lib.hid hm
  have hbw := hm.lt
  clear hm
  by_cases hl : L.length ≤ 4096
  · go_enter Tryz.func58, Tryz.ntmps58
    go_wp2_with (first | (at_make; refine wpList_make_own _ rfl _ _ _ rfl w.heap.size 125 i0 _ 3 Tryz.underlying49 hi hz0 hz1 _ _ _ L.length rfl rfl rfl (by rw [hz2]; omega) (by unfold maxLen; omega) (Nat.le_refl _) ?_; intro wm hown hgm; have Hmm := Lib.hid (Hm.out.kept hgm (by simp)); have Hown := Lib.hid hown; have Hgm := Lib.hid hgm; have hsm := hgm.size; clear hown hgm hlen) | (at_range; refine wpList_range_is _ rfl _ 118 rfl 36 3 Tryz.underlying118 b L rfl Hmm.out ?_; intro w0 hrg0 hg0 hs0))
    have Hrg0 := Lib.hid hrg0
    have Hown0 := Lib.hid (Hown.out.kept hg0 (.inr (by simp [Value.ownBlock])))
    have Hb0 : Hid (Below w.heap.size w w0) := ((Below.refl w.heap.size w).grown Hgm.out (Nat.le_refl _) (by simp)).grown hg0 (by omega) (by simp)
    clear hrg0 hg0
    go_frame
    go_loopw [4] (fun v4 wr => ∃ (done : List CT) (g cap cnt : Nat), v4 = .slice (some ⟨g, 0, none⟩) done.length cap ∧ RIs okID vID vN wr b wm.heap.size L done cnt ∧ wr.ownsRow w.heap.size 125 3 (.slice (some ⟨g, 0, none⟩) done.length cap) done.length (done.flatMap encC) ∧ (∀ c ∈ done, c.2 ≤ 1073741824) ∧ Below w.heap.size w wr) (fun _ wr => wr.rangeLeft b wm.heap.size)
    case atStart => exact ⟨[], w.heap.size, _, _, rfl, Hrg0.out, Hown0.out, by simp, Hb0.out⟩
    case round =>
      obtain ⟨done, g, cap, cnt, rfl, hrg, hown, hall, hb⟩ := hrel
      have hsz := hb.size
      have hleft := hrg.left_eq
      have Hleft := Lib.hid hleft
      have Hrg := Lib.hid hrg
      have Hown := Lib.hid hown
      have Hall := Lib.hid hall
      have Hb := Lib.hid hb
      clear hrg hown hall hb hleft
      go_wp2_with (first
        | (at_next; refine wpList_next_ct _ rfl _ rfl b wm.heap.size L done cnt rfl Hrg.out (fun hp => ?_) (fun s z n w1 cnt1 hc hrg1 hlt1 hg1 hs1 hen => ?_))
        | (at_builtin; refine halt_ ?_))
      · have hdl : done.length ≤ 4096 := by rw [hp.length_eq]; exact hl
        have HE : Hid (limB L = true) := by
          simp only [Hid, limB, Bool.and_eq_true, decide_eq_true_eq, List.all_eq_true]
          exact ⟨hl, fun c hc => Hall.out c (hp.mem_iff.2 hc)⟩
        have HN : Hid ((done.map (·.1)).Nodup) := (List.Perm.nodup_iff (hp.map (fun c : CT => c.1))).2 Hrg.out.map.nodup
        have Hp := Lib.hid hp
        clear hp
        refine (sortC_any w.heap.size g done.length cap x done _ Hown.out hx (by omega)).mono ?_
        rintro e w2 ⟨rfl, ⟨T, hT, hTs, hTr⟩, hb2⟩
        have HT := Lib.hid hT
        have HTs := Lib.hid hTs
        have HTr := Lib.hid hTr
        have hlT : done.length = T.length := hT.length_eq.symm
        have Hcap := Lib.hid (own_cap Hown.out)
        clear hT hTs hTr
        go_wp2_with fail
        go_ret2
        refine ⟨Hb.out.trans hb2, .inl ⟨HE.out, T, some ⟨g, 0, none⟩, cap, HT.out.trans Hp.out, asc_of_sorted HTs.out ((List.Perm.nodup_iff (HT.out.map (fun c : CT => c.1))).2 HN.out), by rw [← hlT]; rfl, HTr.out, by rw [← hlT]; exact Hcap.out, ?_⟩⟩
        intro ad had
        injection had with had
        subst had
        have := Hown.out.lt g rfl
        exact ⟨this.1, Nat.lt_of_lt_of_le this.2 hb2.size⟩
      · rename_i hbig
        have HE : Hid (limB L = false) := by
          simp only [Hid, limB, Bool.and_eq_false_iff]
          refine .inr ?_
          rw [List.all_eq_false]
          exact ⟨_, hc, by simp; omega⟩
        have Hb1 : Below w.heap.size w w1 := Hb.out.grown hg1 hsz (fun k hk => by injection hk with hk; omega)
        go_ret2
        exact ⟨Hb1.alloc Hb1.size _, .inr ⟨HE.out, rfl⟩⟩
      · rename_i hbig
        unfold Hid
        have K1 : Hid (w1.ownsRow w.heap.size 125 3 (.slice (some ⟨g, 0, none⟩) done.length cap) done.length (done.flatMap encC)) := Hown.out.kept hg1 (.inr (fun e => Hrg.out.mown_ne Hown.out e.symm))
        have Hb1 : Hid (Below w.heap.size w w1) := Hb.out.grown hg1 hsz (fun k hk => by injection hk with hk; omega)
        have hsz1 := Hb1.out.size
        have hdl : done.length < 4096 := by
          have := hrg1.mlen
          simp at this
          omega
        refine wpList_append_lies _ rfl _ _ _ rfl w.heap.size 125 i0 _ 3 24 Tryz.underlying49 hi hz0 hz1 hz2 rfl (by decide) _ done.length _ rfl ((K1.out.alloc _).alloc _) ⟨w1.heap.size + 1, 0, none⟩ 1 1 [.int .u64 s, .int .i64 z, .int .i64 n] rfl rfl (mthree_new _ _ _ _ _ _ (by simp)) (encC_one ((s, z), n)) (by omega) (by unfold maxLen; omega) (by omega) (by simp; omega) (w1.heap.size + 2) (by simp) ?_
        intro g2 cap2 w4 hown4 hgrow hat hltg
        have Hown4 := Lib.hid hown4
        have Hrg4 : Hid (RIs okID vID vN w4 b wm.heap.size L (done ++ [((s, z), n)]) cnt1) := ((hrg1.alloc _).alloc _).kept hgrow (hrg1.map.mown_ne K1.out) (hrg1.mown_ne K1.out)
        have Hb4 : Hid (Below w.heap.size w w4) := ((Hb1.out.alloc Hb1.out.size _).alloc (by simp; omega) _).grown hgrow (by simp; omega) (fun k hk => (K1.out.lt k hk).1)
        clear hown4 hgrow hat
        go_wp2_with fail
        go_roundw
        case rel =>
          refine ⟨done ++ [((s, z), n)], g2, cap2, cnt1, by simp, Hrg4.out, ?_, ?_, Hb4.out⟩
          · rw [List.length_append, List.flatMap_append]
            exact Hown4.out
          · intro c hc
            rcases List.mem_append.1 hc with hc | hc
            · exact Hall.out c hc
            · simp at hc; subst hc; simp only; omega
        case measure =>
          rw [Hrg4.out.left_eq, Hleft.out]
          exact hlt1
  · have HE : Hid (limB L = false) := by simp [Hid, limB]; omega
    go_enter Tryz.func58, Tryz.ntmps58
    go_wp2_with fail
    go_ret2
    exact ⟨Below.refl _ _, .inr ⟨HE.out, rfl⟩⟩
end Go.Proofs.YtmiknfneeipkeaaGreat
