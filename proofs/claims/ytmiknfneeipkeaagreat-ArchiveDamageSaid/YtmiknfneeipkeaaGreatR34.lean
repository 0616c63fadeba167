/- Contracts of the walk, part 34. -/
import Derived.Test.YtmiknfneeipkeaaGreatR02
import Derived.Test.YtmiknfneeipkeaaGreatR32
import Derived.Test.YtmiknfneeipkeaaGreatR33
namespace Go.Proofs.YtmiknfneeipkeaaGreat
theorem lin4_0 (d1 d2 d3 d4 m : Int) (h1 : -255 ≤ d1 ∧ d1 ≤ 255) (h2 : -255 ≤ d2 ∧ d2 ≤ 255) (h3 : -255 ≤ d3 ∧ d3 ≤ 255) (h4 : -255 ≤ d4 ∧ d4 ≤ 255) (h : (1032282219015098174) * d1 + (447627560522716910) * d2 + (747382712868975713) * d3 + (1) * d4 = 2305843009213693951 * m) : (26056447432658) * d1 + (-35476884067685) * d2 + (-8374983896175) * d3 + (-7096365069623) * d4 = 0 := by
  have e : (26056447432658) * d1 + (-35476884067685) * d2 + (-8374983896175) * d3 + (-7096365069623) * d4 = (-7096365069623) * ((1032282219015098174) * d1 + (447627560522716910) * d2 + (747382712868975713) * d3 + (1) * d4) - 2305843009213693951 * ((-3176908164060) * d1 + (-1377599676995) * d2 + (-2300113475224) * d3 + (0) * d4) := by clear h1 h2 h3 h4 h; omega
  rw [h] at e
  have e2 : (-7096365069623) * (2305843009213693951 * m) - 2305843009213693951 * ((-3176908164060) * d1 + (-1377599676995) * d2 + (-2300113475224) * d3 + (0) * d4) = 2305843009213693951 * ((-7096365069623) * m - ((-3176908164060) * d1 + (-1377599676995) * d2 + (-2300113475224) * d3 + (0) * d4)) := by clear e h h1 h2 h3 h4; omega
  rw [e2] at e
  clear e2 h
  generalize (-7096365069623) * m - ((-3176908164060) * d1 + (-1377599676995) * d2 + (-2300113475224) * d3 + (0) * d4) = z at e
  have b0 : -6644394095327790 ≤ (26056447432658) * d1 ∧ (26056447432658) * d1 ≤ 6644394095327790 := by clear e; omega
  have b1 : -9046605437259675 ≤ (-35476884067685) * d2 ∧ (-35476884067685) * d2 ≤ 9046605437259675 := by clear e; omega
  have b2 : -2135620893524625 ≤ (-8374983896175) * d3 ∧ (-8374983896175) * d3 ≤ 2135620893524625 := by clear e; omega
  have b3 : -1809573092753865 ≤ (-7096365069623) * d4 ∧ (-7096365069623) * d4 ≤ 1809573092753865 := by clear e; omega
  generalize (26056447432658) * d1 = t0 at e b0 ⊢
  generalize (-35476884067685) * d2 = t1 at e b1 ⊢
  generalize (-8374983896175) * d3 = t2 at e b2 ⊢
  generalize (-7096365069623) * d4 = t3 at e b3 ⊢
  clear h1 h2 h3 h4
  omega
theorem lin4_1 (d1 d2 d3 d4 m : Int) (h1 : -255 ≤ d1 ∧ d1 ≤ 255) (h2 : -255 ≤ d2 ∧ d2 ≤ 255) (h3 : -255 ≤ d3 ∧ d3 ≤ 255) (h4 : -255 ≤ d4 ∧ d4 ≤ 255) (h : (1032282219015098174) * d1 + (447627560522716910) * d2 + (747382712868975713) * d3 + (1) * d4 = 2305843009213693951 * m) : (29846912042024) * d1 + (-19237032953076) * d2 + (57745707211016) * d3 + (12561322668617) * d4 = 0 := by
  have e : (29846912042024) * d1 + (-19237032953076) * d2 + (57745707211016) * d3 + (12561322668617) * d4 = (12561322668617) * ((1032282219015098174) * d1 + (447627560522716910) * d2 + (747382712868975713) * d3 + (1) * d4) - 2305843009213693951 * ((5623466119034) * d1 + (2438498284846) * d2 + (4071446050655) * d3 + (0) * d4) := by clear h1 h2 h3 h4 h; omega
  rw [h] at e
  have e2 : (12561322668617) * (2305843009213693951 * m) - 2305843009213693951 * ((5623466119034) * d1 + (2438498284846) * d2 + (4071446050655) * d3 + (0) * d4) = 2305843009213693951 * ((12561322668617) * m - ((5623466119034) * d1 + (2438498284846) * d2 + (4071446050655) * d3 + (0) * d4)) := by clear e h h1 h2 h3 h4; omega
  rw [e2] at e
  clear e2 h
  generalize (12561322668617) * m - ((5623466119034) * d1 + (2438498284846) * d2 + (4071446050655) * d3 + (0) * d4) = z at e
  have b0 : -7610962570716120 ≤ (29846912042024) * d1 ∧ (29846912042024) * d1 ≤ 7610962570716120 := by clear e; omega
  have b1 : -4905443403034380 ≤ (-19237032953076) * d2 ∧ (-19237032953076) * d2 ≤ 4905443403034380 := by clear e; omega
  have b2 : -14725155338809080 ≤ (57745707211016) * d3 ∧ (57745707211016) * d3 ≤ 14725155338809080 := by clear e; omega
  have b3 : -3203137280497335 ≤ (12561322668617) * d4 ∧ (12561322668617) * d4 ≤ 3203137280497335 := by clear e; omega
  generalize (29846912042024) * d1 = t0 at e b0 ⊢
  generalize (-19237032953076) * d2 = t1 at e b1 ⊢
  generalize (57745707211016) * d3 = t2 at e b2 ⊢
  generalize (12561322668617) * d4 = t3 at e b3 ⊢
  clear h1 h2 h3 h4
  omega
theorem lin4_2 (d1 d2 d3 d4 m : Int) (h1 : -255 ≤ d1 ∧ d1 ≤ 255) (h2 : -255 ≤ d2 ∧ d2 ≤ 255) (h3 : -255 ≤ d3 ∧ d3 ≤ 255) (h4 : -255 ≤ d4 ∧ d4 ≤ 255) (h : (1032282219015098174) * d1 + (447627560522716910) * d2 + (747382712868975713) * d3 + (1) * d4 = 2305843009213693951 * m) : (26867623967903) * d1 + (49654276022411) * d2 + (-41833262495986) * d3 + (26272769587418) * d4 = 0 := by
  have e : (26867623967903) * d1 + (49654276022411) * d2 + (-41833262495986) * d3 + (26272769587418) * d4 = (26272769587418) * ((1032282219015098174) * d1 + (447627560522716910) * d2 + (747382712868975713) * d3 + (1) * d4) - 2305843009213693951 * ((11761821069779) * d1 + (5100267325919) * d2 + (8515676796020) * d3 + (0) * d4) := by clear h1 h2 h3 h4 h; omega
  rw [h] at e
  have e2 : (26272769587418) * (2305843009213693951 * m) - 2305843009213693951 * ((11761821069779) * d1 + (5100267325919) * d2 + (8515676796020) * d3 + (0) * d4) = 2305843009213693951 * ((26272769587418) * m - ((11761821069779) * d1 + (5100267325919) * d2 + (8515676796020) * d3 + (0) * d4)) := by clear e h h1 h2 h3 h4; omega
  rw [e2] at e
  clear e2 h
  generalize (26272769587418) * m - ((11761821069779) * d1 + (5100267325919) * d2 + (8515676796020) * d3 + (0) * d4) = z at e
  have b0 : -6851244111815265 ≤ (26867623967903) * d1 ∧ (26867623967903) * d1 ≤ 6851244111815265 := by clear e; omega
  have b1 : -12661840385714805 ≤ (49654276022411) * d2 ∧ (49654276022411) * d2 ≤ 12661840385714805 := by clear e; omega
  have b2 : -10667481936476430 ≤ (-41833262495986) * d3 ∧ (-41833262495986) * d3 ≤ 10667481936476430 := by clear e; omega
  have b3 : -6699556244791590 ≤ (26272769587418) * d4 ∧ (26272769587418) * d4 ≤ 6699556244791590 := by clear e; omega
  generalize (26867623967903) * d1 = t0 at e b0 ⊢
  generalize (49654276022411) * d2 = t1 at e b1 ⊢
  generalize (-41833262495986) * d3 = t2 at e b2 ⊢
  generalize (26272769587418) * d4 = t3 at e b3 ⊢
  clear h1 h2 h3 h4
  omega
theorem lin4_3 (d1 d2 d3 d4 m : Int) (h1 : -255 ≤ d1 ∧ d1 ≤ 255) (h2 : -255 ≤ d2 ∧ d2 ≤ 255) (h3 : -255 ≤ d3 ∧ d3 ≤ 255) (h4 : -255 ≤ d4 ∧ d4 ≤ 255) (h : (1032282219015098174) * d1 + (447627560522716910) * d2 + (747382712868975713) * d3 + (1) * d4 = 2305843009213693951 * m) : (-14051883323536) * d1 + (-14275819439345) * d2 + (10839472470024) * d3 + (61938304470957) * d4 = 0 := by
  have e : (-14051883323536) * d1 + (-14275819439345) * d2 + (10839472470024) * d3 + (61938304470957) * d4 = (61938304470957) * ((1032282219015098174) * d1 + (447627560522716910) * d2 + (747382712868975713) * d3 + (1) * d4) - 2305843009213693951 * ((27728605167754) * d1 + (12023928785465) * d2 + (20075789132667) * d3 + (0) * d4) := by clear h1 h2 h3 h4 h; omega
  rw [h] at e
  have e2 : (61938304470957) * (2305843009213693951 * m) - 2305843009213693951 * ((27728605167754) * d1 + (12023928785465) * d2 + (20075789132667) * d3 + (0) * d4) = 2305843009213693951 * ((61938304470957) * m - ((27728605167754) * d1 + (12023928785465) * d2 + (20075789132667) * d3 + (0) * d4)) := by clear e h h1 h2 h3 h4; omega
  rw [e2] at e
  clear e2 h
  generalize (61938304470957) * m - ((27728605167754) * d1 + (12023928785465) * d2 + (20075789132667) * d3 + (0) * d4) = z at e
  have b0 : -3583230247501680 ≤ (-14051883323536) * d1 ∧ (-14051883323536) * d1 ≤ 3583230247501680 := by clear e; omega
  have b1 : -3640333957032975 ≤ (-14275819439345) * d2 ∧ (-14275819439345) * d2 ≤ 3640333957032975 := by clear e; omega
  have b2 : -2764065479856120 ≤ (10839472470024) * d3 ∧ (10839472470024) * d3 ≤ 2764065479856120 := by clear e; omega
  have b3 : -15794267640094035 ≤ (61938304470957) * d4 ∧ (61938304470957) * d4 ≤ 15794267640094035 := by clear e; omega
  generalize (-14051883323536) * d1 = t0 at e b0 ⊢
  generalize (-14275819439345) * d2 = t1 at e b1 ⊢
  generalize (10839472470024) * d3 = t2 at e b2 ⊢
  generalize (61938304470957) * d4 = t3 at e b3 ⊢
  clear h1 h2 h3 h4
  omega
theorem core4 (d1 d2 d3 d4 m : Int) (h1 : -255 ≤ d1 ∧ d1 ≤ 255) (h2 : -255 ≤ d2 ∧ d2 ≤ 255) (h3 : -255 ≤ d3 ∧ d3 ≤ 255) (h4 : -255 ≤ d4 ∧ d4 ≤ 255) (h : (1032282219015098174) * d1 + (447627560522716910) * d2 + (747382712868975713) * d3 + (1) * d4 = 2305843009213693951 * m) : d1 = 0 ∧ d2 = 0 ∧ d3 = 0 ∧ d4 = 0 := by
  have e0 := lin4_0 d1 d2 d3 d4 m h1 h2 h3 h4 h
  have e1 := lin4_1 d1 d2 d3 d4 m h1 h2 h3 h4 h
  have e2 := lin4_2 d1 d2 d3 d4 m h1 h2 h3 h4 h
  have e3 := lin4_3 d1 d2 d3 d4 m h1 h2 h3 h4 h
  clear h h1 h2 h3 h4
  have f0 : (-12259964326927110850916040267783483001021757281745764351) * d1 = (-144673175061230243481366383879503478811210) * ((26056447432658) * d1 + (-35476884067685) * d2 + (-8374983896175) * d3 + (-7096365069623) * d4) + (-131343676719499107119448503527209644875903) * ((29846912042024) * d1 + (-19237032953076) * d2 + (57745707211016) * d3 + (12561322668617) * d4) + (-134906007748202681655740876816414618444573) * ((26867623967903) * d1 + (49654276022411) * d2 + (-41833262495986) * d3 + (26272769587418) * d4) + (67285521146632441428029826828192448524655) * ((-14051883323536) * d1 + (-14275819439345) * d2 + (10839472470024) * d3 + (61938304470957) * d4) := by clear e0 e1 e2 e3; omega
  rw [e0, e1, e2, e3] at f0
  have f1 : (-12259964326927110850916040267783483001021757281745764351) * d2 = (206976749679660820222073891645031658330128) * ((26056447432658) * d1 + (-35476884067685) * d2 + (-8374983896175) * d3 + (-7096365069623) * d4) + (-55800991263050768296102175627173429258495) * ((29846912042024) * d1 + (-19237032953076) * d2 + (57745707211016) * d3 + (12561322668617) * d4) + (-98554280519476802395097658639855806072936) * ((26867623967903) * d1 + (49654276022411) * d2 + (-41833262495986) * d3 + (26272769587418) * d4) + (76834695068351277050688188660150855284851) * ((-14051883323536) * d1 + (-14275819439345) * d2 + (10839472470024) * d3 + (61938304470957) * d4) := by clear e0 e1 e2 e3; omega
  rw [e0, e1, e2, e3] at f1
  have f2 : (-12259964326927110850916040267783483001021757281745764351) * d3 = (146050255264863416324500301315181222325069) * ((26056447432658) * d1 + (-35476884067685) * d2 + (-8374983896175) * d3 + (-7096365069623) * d4) + (-159815740389212005092352472129735963473258) * ((29846912042024) * d1 + (-19237032953076) * d2 + (57745707211016) * d3 + (12561322668617) * d4) + (50414959424130289183767587355584416982282) * ((26867623967903) * d1 + (49654276022411) * d2 + (-41833262495986) * d3 + (26272769587418) * d4) + (27759597463972183065645493944685323883621) * ((-14051883323536) * d1 + (-14275819439345) * d2 + (10839472470024) * d3 + (61938304470957) * d4) := by clear e0 e1 e2 e3; omega
  rw [e0, e1, e2, e3] at f2
  have f3 : (-12259964326927110850916040267783483001021757281745764351) * d4 = (-10676359262144444281903112783169532725208) * ((26056447432658) * d1 + (-35476884067685) * d2 + (-8374983896175) * d3 + (-7096365069623) * d4) + (-14690627809414890214590787161303495477963) * ((29846912042024) * d1 + (-19237032953076) * d2 + (57745707211016) * d3 + (12561322668617) * d4) + (-62144067258936386836097401498847359806888) * ((26867623967903) * d1 + (49654276022411) * d2 + (-41833262495986) * d3 + (26272769587418) * d4) + (-169822168741480851774893138592846053407940) * ((-14051883323536) * d1 + (-14275819439345) * d2 + (10839472470024) * d3 + (61938304470957) * d4) := by clear e0 e1 e2 e3; omega
  rw [e0, e1, e2, e3] at f3
  refine ⟨?_, ?_, ?_, ?_⟩
  · clear e0 e1 e2 e3; omega
  · clear e0 e1 e2 e3; omega
  · clear e0 e1 e2 e3; omega
  · clear e0 e1 e2 e3; omega
def polyB (bs : List UInt8) : Int := bs.foldl (fun s x => s * 747382712868975713 + ((x.toNat : Int) + 1)) 0
theorem fp_poly (bs : List UInt8) : ∃ m : Int, ((fpSum bs : Nat) : Int) = polyB bs - 2305843009213693951 * m := by
  suffices h : ∀ (bs : List UInt8) (s : Nat) (z : Int), (∃ m : Int, (s : Int) = z - 2305843009213693951 * m) → ∃ m : Int, ((bs.foldl fpStep s : Nat) : Int) = bs.foldl (fun s x => s * 747382712868975713 + ((x.toNat : Int) + 1)) z - 2305843009213693951 * m from h bs 0 0 ⟨0, by simp⟩
  intro bs
  induction bs with
  | nil => intro s z h; exact h
  | cons x bs ih =>
    intro s z h
    obtain ⟨m, hm⟩ := h
    rw [List.foldl_cons, List.foldl_cons]
    refine ih _ _ ?_
    unfold fpStep pB pP
    have h1 := Nat.mod_add_div (s * 747382712868975713 + (x.toNat + 1)) 2305843009213693951
    refine ⟨m * 747382712868975713 + (((s * 747382712868975713 + (x.toNat + 1)) / 2305843009213693951 : Nat) : Int), ?_⟩
    generalize (s * 747382712868975713 + (x.toNat + 1)) / 2305843009213693951 = q at h1 ⊢
    generalize (s * 747382712868975713 + (x.toNat + 1)) % 2305843009213693951 = r at h1 ⊢
    omega
theorem byte_inj {a b : UInt8} (h : (a.toNat : Int) - b.toNat = 0) : a = b := UInt8.toNat_inj.1 (by omega)
theorem byte_bd (a b : UInt8) : -255 ≤ (a.toNat : Int) - b.toNat ∧ (a.toNat : Int) - b.toNat ≤ 255 := by
  have := a.toNat_lt
  have := b.toNat_lt
  omega
theorem fp4_1 (a1 b1 : UInt8) (hs : fpSum [a1] = fpSum [b1]) : [a1] = [b1] := by
  obtain ⟨ma, fa⟩ := fp_poly [a1]
  obtain ⟨mb, fb⟩ := fp_poly [b1]
  rw [hs, fb] at fa
  clear fb hs
  simp only [polyB, List.foldl_cons, List.foldl_nil] at fa
  have h := core4 0 0 0 ((a1.toNat : Int) - b1.toNat) ((ma - mb) - (((a1.toNat : Int) - b1.toNat) * 0)) (by omega) (by omega) (by omega) (byte_bd a1 b1) (by omega)
  obtain ⟨_, _, _, k1⟩ := h
  rw [byte_inj k1]
theorem fp4_2 (a1 a2 b1 b2 : UInt8) (hs : fpSum [a1, a2] = fpSum [b1, b2]) : [a1, a2] = [b1, b2] := by
  obtain ⟨ma, fa⟩ := fp_poly [a1, a2]
  obtain ⟨mb, fb⟩ := fp_poly [b1, b2]
  rw [hs, fb] at fa
  clear fb hs
  simp only [polyB, List.foldl_cons, List.foldl_nil] at fa
  have h := core4 0 0 ((a1.toNat : Int) - b1.toNat) ((a2.toNat : Int) - b2.toNat) ((ma - mb) - (((a1.toNat : Int) - b1.toNat) * 0 + ((a2.toNat : Int) - b2.toNat) * 0)) (by omega) (by omega) (byte_bd a1 b1) (byte_bd a2 b2) (by omega)
  obtain ⟨_, _, k1, k2⟩ := h
  rw [byte_inj k1, byte_inj k2]
theorem fp4_3 (a1 a2 a3 b1 b2 b3 : UInt8) (hs : fpSum [a1, a2, a3] = fpSum [b1, b2, b3]) : [a1, a2, a3] = [b1, b2, b3] := by
  obtain ⟨ma, fa⟩ := fp_poly [a1, a2, a3]
  obtain ⟨mb, fb⟩ := fp_poly [b1, b2, b3]
  rw [hs, fb] at fa
  clear fb hs
  simp only [polyB, List.foldl_cons, List.foldl_nil] at fa
  have h := core4 0 ((a1.toNat : Int) - b1.toNat) ((a2.toNat : Int) - b2.toNat) ((a3.toNat : Int) - b3.toNat) ((ma - mb) - (((a1.toNat : Int) - b1.toNat) * 242245858570340909 + ((a2.toNat : Int) - b2.toNat) * 0 + ((a3.toNat : Int) - b3.toNat) * 0)) (by omega) (byte_bd a1 b1) (byte_bd a2 b2) (byte_bd a3 b3) (by omega)
  obtain ⟨_, k1, k2, k3⟩ := h
  rw [byte_inj k1, byte_inj k2, byte_inj k3]
theorem fp4_4 (a1 a2 a3 a4 b1 b2 b3 b4 : UInt8) (hs : fpSum [a1, a2, a3, a4] = fpSum [b1, b2, b3, b4]) : [a1, a2, a3, a4] = [b1, b2, b3, b4] := by
  obtain ⟨ma, fa⟩ := fp_poly [a1, a2, a3, a4]
  obtain ⟨mb, fb⟩ := fp_poly [b1, b2, b3, b4]
  rw [hs, fb] at fa
  clear fb hs
  simp only [polyB, List.foldl_cons, List.foldl_nil] at fa
  have h := core4 ((a1.toNat : Int) - b1.toNat) ((a2.toNat : Int) - b2.toNat) ((a3.toNat : Int) - b3.toNat) ((a4.toNat : Int) - b4.toNat) ((ma - mb) - (((a1.toNat : Int) - b1.toNat) * 181050366959575599150511904694060573 + ((a2.toNat : Int) - b2.toNat) * 242245858570340909 + ((a3.toNat : Int) - b3.toNat) * 0 + ((a4.toNat : Int) - b4.toNat) * 0)) (byte_bd a1 b1) (byte_bd a2 b2) (byte_bd a3 b3) (byte_bd a4 b4) (by omega)
  obtain ⟨k1, k2, k3, k4⟩ := h
  rw [byte_inj k1, byte_inj k2, byte_inj k3, byte_inj k4]
theorem fp4_inj {a b : List UInt8} (ha : a.length ≤ 4) (e : fpOf a = fpOf b) : a = b := by
  have hl : a.length = b.length := by
    have := congrArg (·.2) e
    simp only [fpOf] at this
    omega
  have hs : fpSum a = fpSum b := by
    have := congrArg (·.1) e
    simp only [fpOf] at this
    omega
  match a, b, hl, ha, hs with
  | [], [], _, _, _ => rfl
  | [a1], [b1], _, _, hs => exact fp4_1 a1 b1 hs
  | [a1, a2], [b1, b2], _, _, hs => exact fp4_2 a1 a2 b1 b2 hs
  | [a1, a2, a3], [b1, b2, b3], _, _, hs => exact fp4_3 a1 a2 a3 b1 b2 b3 hs
  | [a1, a2, a3, a4], [b1, b2, b3, b4], _, _, hs => exact fp4_4 a1 a2 a3 a4 b1 b2 b3 b4 hs
end Go.Proofs.YtmiknfneeipkeaaGreat
namespace Go.Proofs.YtmiknfneeipkeaaGreat
open Go.RowKit Go.MapKept Go.ChangeMaps Go.Shelf Go.Sort
theorem asc_same {x y : List ID} (hx : AscI x) (hy : AscI y) (h : ∀ i, i ∈ x ↔ i ∈ y) : x = y := by
  induction x generalizing y with
  | nil =>
    cases y with
    | nil => rfl
    | cons c y => exact absurd ((h c).2 (.head _)) (by simp)
  | cons c x ih =>
    cases y with
    | nil => exact absurd ((h c).1 (.head _)) (by simp)
    | cons d y =>
      obtain ⟨x1, x2⟩ := List.pairwise_cons.1 hx
      obtain ⟨y1, y2⟩ := List.pairwise_cons.1 hy
      have irr : ∀ i : ID, ltID i i ≠ true := fun i => by simp [ltID]
      have hcd : c = d := by
        rcases List.mem_cons.1 ((h c).1 (.head _)) with e | e
        · exact e
        · rcases List.mem_cons.1 ((h d).2 (.head _)) with e' | e'
          · exact e'.symm
          · exact absurd (ltI_trans (x1 d e') (y1 c e)) (irr c)
      subst hcd
      congr 1
      refine ih x2 y2 (fun i => ⟨fun hi => ?_, fun hi => ?_⟩)
      · rcases List.mem_cons.1 ((h i).1 (.tail _ hi)) with e | e
        · exact absurd (x1 i hi) (by rw [e]; exact irr c)
        · exact e
      · rcases List.mem_cons.1 ((h i).2 (.tail _ hi)) with e | e
        · exact absurd (y1 i hi) (by rw [e]; exact irr c)
        · exact e
theorem ids_chs (Ps : List (List BS)) : idsOf (mansT Ps) = (chsT Ps).map (fun e => fpOf e.2.bs) := by
  induction Ps with
  | nil => rfl
  | cons T Ps ih =>
    have h1 : idsOf (mansT (T :: Ps)) = idS T ++ idsOf (mansT Ps) := by simp [idsOf, mansT, manT]
    have h2 : chsT (T :: Ps) = chOfT T ++ chsT Ps := by simp [chsT]
    rw [h1, h2, ih, List.map_append]
    congr 1
    simp [chOfT, idS]
theorem srt_sel {Ps : List (List BS)} {Y : List CH} (hs : SrtR (chsT Ps) Y) (ha : AllR (setR (idsOf (mansT Ps))) (chsT Ps)) (hb : ∀ e ∈ chsT Ps, e.2.bs.length ≤ 4) : Y.map (·.2.bs) = (selR (setR (idsOf (mansT Ps))) (chsT Ps)).map (·.2.bs) := by
  obtain ⟨h1, h2, h3⟩ := hs
  have hids : Y.map (·.1) = (selR (setR (idsOf (mansT Ps))) (chsT Ps)).map (·.1) := by
    rw [selR_fst ha]
    refine asc_same h1 (setR_strict _) (fun i => ?_)
    rw [setR_mem, ids_chs]
    constructor
    · intro hi
      obtain ⟨e, he, rfl⟩ := List.mem_map.1 hi
      obtain ⟨e1, x, hx, e2⟩ := h2 e he
      exact List.mem_map.2 ⟨x, hx, by rw [e2, e1]⟩
    · intro hi
      obtain ⟨x, hx, rfl⟩ := List.mem_map.1 hi
      exact h3 x hx
  have key : ∀ (A B : List CH), A.map (·.1) = B.map (·.1) → (∀ e ∈ A, fpOf e.2.bs = e.1 ∧ e.2.bs.length ≤ 4) → (∀ e ∈ B, fpOf e.2.bs = e.1) → A.map (·.2.bs) = B.map (·.2.bs) := by
    intro A
    induction A with
    | nil =>
      intro B hB _ _
      cases B with
      | nil => rfl
      | cons c B => simp at hB
    | cons a A ih =>
      intro B hB hA1 hB1
      cases B with
      | nil => simp at hB
      | cons c B =>
        rw [List.map_cons, List.map_cons] at hB ⊢
        injection hB with e1 e2
        rw [ih B e2 (fun e he => hA1 e (.tail _ he)) (fun e he => hB1 e (.tail _ he))]
        congr 1
        obtain ⟨f1, f2⟩ := hA1 a (.head _)
        exact fp4_inj f2 (by rw [f1, hB1 c (.head _), e1])
  refine key _ _ hids (fun e he => ?_) (fun e he => (selR_mem2 ha e he).2.1)
  obtain ⟨e1, x, hx, e2⟩ := h2 e he
  exact ⟨e1, by rw [← e2]; exact hb x hx⟩
theorem set_mid {α : Type} (pre mid post : List α) (i : Nat) (x : α) (h : i < mid.length) : (pre ++ (mid ++ post)).set (pre.length + i) x = pre ++ (mid.set i x ++ post) := by
  rw [List.set_append_right _ _ (Nat.le_add_right _ _), Nat.add_sub_cancel_left, List.set_append_left _ _ h]
theorem getD_mid (pre mid post : List UInt8) (i : Nat) (h : i < mid.length) : (pre ++ (mid ++ post)).getD (pre.length + i) 0 = mid.getD i 0 := by
  rw [List.getD_eq_getElem?_getD, List.getElem?_append_right (Nat.le_add_right _ _), Nat.add_sub_cancel_left, List.getElem?_append_left h, List.getD_eq_getElem?_getD]
def placeP (ys : List Man) (Y : List CH) (k : Nat) : Nat := (volH ys.length ys).length + 4 + ((Y.take k).flatMap frameP).length
theorem place_succ {ys : List Man} {Y : List CH} {k : Nat} (h : k < Y.length) : placeP ys Y (k + 1) = placeP ys Y k + (frameP (Y.getD k ch0)).length := by
  rw [placeP, placeP, take_snoc _ ch0 _ h, List.flatMap_append, List.length_append]
  simp only [List.flatMap_cons, List.flatMap_nil, List.append_nil]
  omega
theorem frames_split {Y : List CH} {k : Nat} (h : k < Y.length) : Y.flatMap frameP = (Y.take k).flatMap frameP ++ (frameP (Y.getD k ch0) ++ (Y.drop (k + 1)).flatMap frameP) := by
  have e : Y = Y.take k ++ (Y.getD k ch0 :: Y.drop (k + 1)) := by
    rw [List.getD_eq_getElem?_getD, List.getElem?_eq_getElem h, Option.getD_some, ← List.drop_eq_getElem_cons h, List.take_append_drop]
  conv => lhs; rw [e]
  rw [List.flatMap_append, List.flatMap_cons]
theorem spoilt {ys : List Man} {Y : List CH} {k : Nat} (hy : ∀ m ∈ ys, ManOk m) (hn : ys.length < 18446744073709551616) (hok : ∀ e ∈ Y, okCH e = true) (ha : AscI (Y.map (·.1))) (hs : ∀ e ∈ Y, e.2.bs.length ≤ 4) (hk : k < Y.length) {x : UInt8} (hx : (volB ys Y).getD (placeP ys Y (k + 1) - 1) 0 ≠ x) :
    placeP ys Y (k + 1) - 1 < (volB ys Y).length ∧ opnV ((volB ys Y).set (placeP ys Y (k + 1) - 1) x) = none ∧ ∀ ms j, rdMans ((volB ys Y).set (placeP ys Y (k + 1) - 1) x) = some (ms, j) → ms = ys := by
  obtain ⟨e, he⟩ : ∃ e, Y.getD k ch0 = e := ⟨_, rfl⟩
  have hm : e ∈ Y := by rw [← he]; exact getD_mem _ _ _ hk
  obtain ⟨hid, hl1, hl2⟩ := okCH_id (hok e hm)
  have hfr : frameP e = [1] ++ (putU e.2.bs.length ++ (putU (fpSum e.2.bs) ++ e.2.bs)) := by rw [frameP]; simp only [List.append_assoc]
  obtain ⟨pk, hpk⟩ : ∃ p, putU (fpSum (packB Y)) = p := ⟨_, rfl⟩
  obtain ⟨post, hpost⟩ : ∃ p, (Y.drop (k + 1)).flatMap frameP ++ ([0] ++ (putU Y.length ++ pk)) = p := ⟨_, rfl⟩
  have e0 : volB ys Y = (volH ys.length ys ++ (packM ++ ((Y.take k).flatMap frameP ++ ([1] ++ (putU e.2.bs.length ++ putU (fpSum e.2.bs)))))) ++ (e.2.bs ++ post) := by
    rw [volB, packP, hpk, packB, packF, frames_split hk, he, hfr, ← hpost, packM]
    simp only [List.append_assoc]
  have hp : placeP ys Y (k + 1) - 1 = (volH ys.length ys ++ (packM ++ ((Y.take k).flatMap frameP ++ ([1] ++ (putU e.2.bs.length ++ putU (fpSum e.2.bs)))))).length + (e.2.bs.length - 1) := by
    rw [place_succ hk, he, hfr, placeP, packM]
    simp only [List.length_append, List.length_cons, List.length_nil]
    omega
  have hi : e.2.bs.length - 1 < e.2.bs.length := by omega
  rw [hp] at hx ⊢
  rw [e0, getD_mid _ _ _ _ hi] at hx
  have hset : (volB ys Y).set ((volH ys.length ys ++ (packM ++ ((Y.take k).flatMap frameP ++ ([1] ++ (putU e.2.bs.length ++ putU (fpSum e.2.bs)))))).length + (e.2.bs.length - 1)) x = volH ys.length ys ++ (packM ++ ((Y.take k).flatMap frameP ++ ([1] ++ (putU e.2.bs.length ++ (putU (fpSum e.2.bs) ++ (e.2.bs.set (e.2.bs.length - 1) x ++ post)))))) := by
    rw [e0, set_mid _ _ _ _ _ hi]
    simp only [List.append_assoc]
  have hne : fpOf (e.2.bs.set (e.2.bs.length - 1) x) ≠ (((fpSum e.2.bs : Nat) : Int), ((e.2.bs.length : Nat) : Int)) := fun h => by
    have h1 : e.2.bs.set (e.2.bs.length - 1) x = e.2.bs := fp4_inj (by rw [List.length_set]; exact hs e hm) h
    apply hx
    rw [← h1]
    simp [List.getD_eq_getElem?_getD, hi]
  refine ⟨?_, ?_, fun ms j hr => ?_⟩
  · rw [e0]
    simp only [List.length_append]
    omega
  · rw [hset, opnV_put ys _ hy hn, decP_spoilt (T := Y.take k) (fun q hq => hok q (List.mem_of_mem_take hq)) (by rw [List.map_take]; exact List.Pairwise.sublist (List.take_sublist _ _) ha) (by rw [List.length_set]) hl1 hl2 (sum_small _) hne rfl]
    rfl
  · rw [hset, rdMans_put ys _ hy hn] at hr
    injection hr with hr
    injection hr with hr _
    exact hr.symm
end Go.Proofs.YtmiknfneeipkeaaGreat
