/- A device: its state, its blocks. -/
import Derived.Test.YtddjkkmdcdiofaaN
namespace Go.Proofs.Ytddjkkmdcdiofaa
open Go.RowKit Go.MapKept Go.ChangeMaps

/-- The state of a device. -/
structure St where
  K : FF
  ops : List POp
  dn : Bool
  f : Int
def St.now (s : St) : FF := s.ops.foldl applyF s.K
/-- Where a device lies. -/
structure Rp where
  kb : Nat
  nb : Nat
  EK : Files
  EN : Files
  A : Option Addr
  c : Nat
  L : List (POp × BD)
def encO (x : POp × BD) : List Value := [vFn x.1.k, .string x.1.nm, .string x.1.to, .slice x.2.A x.2.len x.2.cap, .bool x.1.tears]
theorem encO_len (x : POp × BD) : (encO x).length = 5 := rfl
abbrev Rp.row (r : Rp) : Value := .slice r.A r.L.length r.c
/-- The blocks that are the device's own. -/
def Rp.own (r : Rp) (p : Nat) (i : Nat) : Prop := i = p ∨ i = r.kb ∨ i = r.nb ∨ some i = r.row.ownBlock
/-- A device whose files are now N. -/
structure DevN (w : World) (p : Nat) (r : Rp) (s : St) (N : FF) : Prop where
  cells : IsB w p 81 (vD (.map (some r.kb)) (.map (some r.nb)) r.row s.dn s.f)
  kept : FM w r.kb r.EK
  now : FM w r.nb r.EN
  two : r.kb ≠ r.nb
  pend : w.ownsRow 0 88 5 r.row r.L.length (r.L.flatMap encO)
  ops : ∀ x ∈ r.L, RB w x.2 x.1.bs ∧ Safe r.EN x.2
  safe : ∀ e ∈ r.EK, Safe r.EN e.2.1
  sK : ∀ n, asc (plain r.EK) n = s.K n
  sO : r.L.map (·.1) = s.ops
  sN : ∀ n, asc (plain r.EN) n = N n
abbrev Dev (w : World) (p : Nat) (r : Rp) (s : St) : Prop := DevN w p r s s.now
/-- Rooms that are new, or old ones moved on. -/
def Roomy (G G' : List (Nat × Nat)) (H : Nat) : Prop := ∀ q ∈ G', H ≤ q.1 ∨ ∃ q0 ∈ G, q0.1 = q.1 ∧ q0.2 ≤ q.2
theorem Succ.roomy {E E' : Files} {H : Nat} (h : Succ E E' H) : Roomy (rooms E) (rooms E') H := by
  intro q hq
  obtain ⟨e, he, h1, h2, h3⟩ := mem_rooms.1 hq
  rcases h e he q.1 h1 with h4 | ⟨c, hc, c1, c2, c3⟩
  · exact .inl h4
  · exact .inr ⟨(q.1, c.2.1.len), mem_rooms.2 ⟨c, hc, c1, rfl, by omega⟩, rfl, by simp only; omega⟩
/-- What a method leaves of the rest of the world. -/
structure Step (w w' : World) (p : Nat) (r r' : Rp) : Prop where
  ch : Ch w w' (r.own p) (rooms r.EN)
  own : ∀ i, r'.own p i → r.own p i ∨ w.heap.size ≤ i
  rooms : Roomy (rooms r.EN) (rooms r'.EN) w.heap.size
end Go.Proofs.Ytddjkkmdcdiofaa
