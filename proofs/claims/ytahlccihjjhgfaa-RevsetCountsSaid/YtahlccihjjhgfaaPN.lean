/- Plain facts: how many numbers sets have. -/
import Derived.Test.YtahlccihjjhgfaaS
namespace Go.Proofs.Ytahlccihjjhgfaa

theorem nodup_allM {xs : RL} (h : Canon xs) : (allM xs xs.length).Nodup :=
  (allM_sorted (canon_iff.2 h) _ (Nat.le_refl _)).imp fun {a b} hab => by omega
theorem memM {xs : RL} {n : Int} : n ∈ allM xs xs.length ↔ Mem n xs := (any_inR inR (fun _ => rfl)).symm.trans mem_iff

/-- Two sets of numbers, each without doubles, the same: as many. -/
theorem same_len {l l' : List Int} (h : l.Nodup) (h' : l'.Nodup) (he : ∀ n, n ∈ l ↔ n ∈ l') : l.length = l'.length :=
  ((List.perm_ext_iff_of_nodup h h').2 he).length_eq

theorem filter_parts (l : List Int) (p : Int → Bool) : l.length = (l.filter p).length + (l.filter fun n => !p n).length := by
  induction l with
  | nil => rfl
  | cons x l ih =>
    rw [List.filter_cons, List.filter_cons]
    cases p x <;> simp <;> omega

theorem cnt_eq {xs : RL} (h : Canon xs) : cnt xs xs.length = ((allM xs xs.length).length : Int) := (allM_length (canon_iff.2 h) _ (Nat.le_refl _)).symm

theorem cnt_parts {a b m d : RL} (ha : Canon a) (hm : Canon m) (hd : Canon d)
    (mm : ∀ n, Mem n m ↔ andB (a.any (inR n)) (b.any (inR n)) = true) (md : ∀ n, Mem n d ↔ notB (a.any (inR n)) (b.any (inR n)) = true) :
    cnt a a.length = cnt m m.length + cnt d d.length := by
  rw [cnt_eq ha, cnt_eq hm, cnt_eq hd]
  have e1 := same_len (nodup_allM hm) ((nodup_allM ha).sublist (List.filter_sublist (p := fun n => b.any (inR n)))) (fun n => by
    rw [memM, mm, List.mem_filter, memM, ← mem_iff]
    unfold andB
    rw [Bool.and_eq_true])
  have e2 := same_len (nodup_allM hd) ((nodup_allM ha).sublist (List.filter_sublist (p := fun n => !b.any (inR n)))) (fun n => by
    rw [memM, md, List.mem_filter, memM, ← mem_iff]
    unfold notB
    rw [Bool.and_eq_true])
  have e3 := filter_parts (allM a a.length) (fun n => b.any (inR n))
  omega

theorem cnt_union {a b u m : RL} (ha : Canon a) (hb : Canon b) (hu : Canon u) (hm : Canon m)
    (mu : ∀ n, Mem n u ↔ orB (a.any (inR n)) (b.any (inR n)) = true) (mm : ∀ n, Mem n m ↔ andB (a.any (inR n)) (b.any (inR n)) = true) :
    cnt u u.length = cnt a a.length + cnt b b.length - cnt m m.length := by
  rw [cnt_eq ha, cnt_eq hb, cnt_eq hu, cnt_eq hm]
  have e1 := same_len (nodup_allM hm) ((nodup_allM hb).sublist (List.filter_sublist (p := fun n => a.any (inR n)))) (fun n => by
    rw [memM, mm, List.mem_filter, memM, ← mem_iff]
    unfold andB
    rw [Bool.and_eq_true, and_comm])
  have e3 := filter_parts (allM b b.length) (fun n => a.any (inR n))
  have hnd : (allM a a.length ++ (allM b b.length).filter fun n => !a.any (inR n)).Nodup := by
    rw [List.nodup_append]
    refine ⟨nodup_allM ha, (nodup_allM hb).sublist List.filter_sublist, fun x hx y hy hxy => ?_⟩
    subst hxy
    have h1 := (List.mem_filter.1 hy).2
    rw [mem_iff.2 (memM.1 hx)] at h1
    cases h1
  have e2 := same_len (nodup_allM hu) hnd (fun n => by
    rw [memM, mu, List.mem_append, List.mem_filter, memM, memM, ← mem_iff, ← mem_iff]
    unfold orB
    cases a.any (inR n) <;> cases b.any (inR n) <;> simp)
  rw [List.length_append] at e2
  omega
end Go.Proofs.Ytahlccihjjhgfaa
