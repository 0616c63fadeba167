/- Contracts for a device that lies from b on. -/
import Derived.Test.YtddjkkmdcdiofaaDD
import Derived.Laws.IdiomStrings
import Derived.Lib.SlBytesConst
import Derived.Lib.BufferRead
namespace Go.Proofs.Ytddjkkmdcdiofaa
open Go.RowKit Go.MapKept Go.ChangeMaps

/-- What leaves the device in the state s'. -/
def GetL (b p : Nat) (s' : St) (v : Value) (w : World) (R : List (BD × List UInt8)) (e : Ending) (w' : World) : Prop := e = .returned v ∧ LDev b w' p s' R ∧ Below b w w'
def ReqL (b p : Nat) (s : St) (o : POp) (w : World) (R : List (BD × List UInt8)) (e : Ending) (w' : World) : Prop := ∃ n, Cnt s.now n ∧ GetL b p (reqS s n o) (.int .i64 (reqE s n o)) w R e w'
section
variable {b p : Nat} {s : St} {w : World} {R : List (BD × List UInt8)}
theorem req_L {F : FuncId} {args : Array Value} {o : POp} (hc : ∀ r, DV w p r s → Calls Try.prog F args w (ReqPost p r s o w)) (h : LDev b w p s R) : Calls Try.prog F args w (ReqL b p s o w R) := by
  obtain ⟨h0, r, h1, h2, hR⟩ := h
  refine (hc r h1).mono ?_
  rintro e w' ⟨n, hn, he, r', hd, hs⟩
  obtain ⟨h3, h4⟩ := LDev.step h0 h2 h1 hR hd hs
  exact ⟨n, hn, he, h3, h4⟩
theorem goes_L {F : FuncId} {args : Array Value} {s' : St} {v : Value} (hc : ∀ r, DV w p r s → Calls Try.prog F args w (Goes p r s' v w)) (h : LDev b w p s R) : Calls Try.prog F args w (GetL b p s' v w R) := by
  obtain ⟨h0, r, h1, h2, hR⟩ := h
  refine (hc r h1).mono ?_
  rintro e w' ⟨he, r', hd, hs⟩
  obtain ⟨h3, h4⟩ := LDev.step h0 h2 h1 hR hd hs
  exact ⟨he, h3, h4⟩
theorem Create_L (nm : ByteArray) (A : Option Addr) (c : Nat) (bs : List UInt8) (h : LDev b w p s R) (hn : okS nm) (hs : SB w A bs) (hL : s.ops.length ≤ 1000000) (hbs : bs.length ≤ 9223372036854775807) :
    Calls Try.prog 14 #[.pointer (some ⟨p, 0, none⟩), .string nm, .slice A bs.length c] w (ReqL b p s ⟨.create, nm, ByteArray.empty, bs, true⟩ w R) := req_L (fun r hd => Create_any p r s nm A c bs w hd hn hs hL hbs) h
theorem Append_L (nm : ByteArray) (A : Option Addr) (c : Nat) (bs : List UInt8) (h : LDev b w p s R) (hn : okS nm) (hs : SB w A bs) (hL : s.ops.length ≤ 1000000) (hbs : bs.length ≤ 1152921504606846976) :
    Calls Try.prog 17 #[.pointer (some ⟨p, 0, none⟩), .string nm, .slice A bs.length c] w (ReqL b p s ⟨.add, nm, ByteArray.empty, bs, true⟩ w R) := req_L (fun r hd => Append_any p r s nm A c bs w hd hn hs hL hbs) h
theorem Delete_L (nm : ByteArray) (h : LDev b w p s R) (hn : okS nm) (hL : s.ops.length ≤ 1000000) :
    Calls Try.prog 33 #[.pointer (some ⟨p, 0, none⟩), .string nm] w (ReqL b p s ⟨.remove, nm, ByteArray.empty, [], false⟩ w R) := req_L (fun r hd => Delete_any p r s nm w hd hn hL) h
theorem Rename_L (nm to : ByteArray) (h : LDev b w p s R) (hn : okS nm) (ht : okS to) (hL : s.ops.length ≤ 1000000) :
    Calls Try.prog 34 #[.pointer (some ⟨p, 0, none⟩), .string nm, .string to] w (ReqL b p s ⟨.rename, nm, to, [], false⟩ w R) := req_L (fun r hd => Rename_any p r s nm to w hd hn ht hL) h
theorem Sync_L (h : LDev b w p s R) (hL : s.ops.length ≤ 1000000) : Calls Try.prog 15 #[.pointer (some ⟨p, 0, none⟩)] w (GetL b p (syncS s) (.int .i64 (syncE s)) w R) := goes_L (fun r hd => Sync_any p r s w hd hL) h
theorem Lose_L (keep torn : Int) (h : LDev b w p s R) (hL : s.ops.length ≤ 1000000) (ht : torn ≤ 9223372036854775807) : Calls Try.prog 18 #[.pointer (some ⟨p, 0, none⟩), .agg #[.int .i64 keep, .int .i64 torn]] w (GetL b p (loseS s keep torn) (.tuple #[]) w R) := goes_L (fun r hd => Lose_any p r s keep torn w hd hL ht) h
theorem Restart_L (h : LDev b w p s R) (hL : s.ops.length ≤ 1000000) : Calls Try.prog 19 #[.pointer (some ⟨p, 0, none⟩)] w (GetL b p (restartS s) (.tuple #[]) w R) := goes_L (fun r hd => Restart_any p r s w hd hL) h
theorem Fuse_L (n : Int) (h : LDev b w p s R) (hn : n ≤ 9223372036854775807) : Calls Try.prog 22 #[.pointer (some ⟨p, 0, none⟩), .int .i64 n] w (GetL b p { s with f := max n 0 } (.tuple #[]) w R) := goes_L (fun r hd => Fuse_any p r s n w hd hn) h
theorem Flip_L (nm : ByteArray) (off bit : Int) (h : LDev b w p s R) (hn : okS nm) (hL : s.ops.length ≤ 1000000) : Calls Try.prog 28 #[.pointer (some ⟨p, 0, none⟩), .string nm, .int .i64 off, .int .i64 bit] w (GetL b p (flipS s nm off bit) (.int .i64 (flipE s nm off bit)) w R) := goes_L (fun r hd => Flip_any p r s nm off bit w hd hn hL) h
theorem Read_L (nm : ByteArray) (h : LDev b w p s R) (hn : okS nm) : Calls Try.prog 20 #[.pointer (some ⟨p, 0, none⟩), .string nm] w (ReadPost s nm w) := by
  obtain ⟨_, r, h1, _⟩ := h
  exact Read_any p r s nm w h1 hn
theorem Pending_L (h : LDev b w p s R) (hL : s.ops.length ≤ 1000000) : Calls Try.prog 27 #[.pointer (some ⟨p, 0, none⟩)] w (fun e w' => e = .returned (.int .i64 s.ops.length) ∧ w = w') := by
  obtain ⟨_, r, h1, _⟩ := h
  exact Pending_any p r s w h1 hL
theorem Down_L (h : LDev b w p s R) : Calls Try.prog 26 #[.pointer (some ⟨p, 0, none⟩)] w (fun e w' => e = .returned (.bool s.dn) ∧ w = w') := by
  obtain ⟨_, r, h1, _⟩ := h
  exact Down_any p r s w h1
end
/-- 'string(b)'. -/
theorem conv_str {w : World} {A : Option Addr} {bs : List UInt8} (h : SB w A bs) (c : Nat) : (convert 22 9 (.slice A bs.length c)).run Try.prog w = .ok (.string ⟨bs.toArray⟩) w := by
  cases A with
  | none =>
    obtain rfl : bs = [] := List.eq_nil_of_length_eq_zero (h.1 rfl)
    exact Lib.run_convert_nil_bytes w 22 9 5 c Try.underlying22 Try.underlying5 Try.underlying9
  | some ad =>
    exact run_convert_bytes_back w 22 9 5 ad c bs Try.underlying22 Try.underlying5 Try.underlying9 (fun j hj => h.2 ad rfl j _ (by rw [List.getElem?_map, List.getElem?_eq_getElem hj]; rfl))
theorem conv_rb {w : World} {d : BD} {bs : List UInt8} (h : RB w d bs) : (convert 22 9 (.slice d.A d.len d.cap)).run Try.prog w = .ok (.string ⟨bs.toArray⟩) w := by
  have := conv_str h.src d.cap
  rwa [h.1] at this
/-- A request that is carried out. -/
theorem req_ok {s : St} {n : Nat} {o : POp} (hg : gate s n o = 0) (hf : s.f = 0) : reqE s n o = 0 ∧ reqS s n o = { s with ops := s.ops ++ [o] } := by
  simp [reqE, reqS, hg, hf, St.did, burnD, burnF]
theorem gate_create {s : St} {n : Nat} {nm : ByteArray} {bs : List UInt8} (hd : s.dn = false) (hn : nameB nm = true) (hl : bs.length ≤ 4194304) (hc : (s.now nm).isSome = true ∨ n < 256) : gate s n ⟨.create, nm, ByteArray.empty, bs, true⟩ = 0 := by
  simp only [gate, hd, hn]
  rw [if_neg (by simp), if_pos trivial, if_neg]
  rintro (h | ⟨h1, h2⟩)
  · omega
  · rcases hc with h3 | h3
    · rw [h1] at h3; cases h3
    · omega
theorem gate_add {s : St} {n : Nat} {nm : ByteArray} {bs v : List UInt8} (hd : s.dn = false) (hn : nameB nm = true) (hv : s.now nm = some v) (hl : v.length + bs.length ≤ 4194304) : gate s n ⟨.add, nm, ByteArray.empty, bs, true⟩ = 0 := by
  simp only [gate, hd, hn, hv]
  rw [if_neg (by simp), if_pos trivial, if_pos (by simp), if_neg]
  simp only [Option.getD_some]
  omega
theorem Cnt.none : Cnt (fun _ => none) 0 := ⟨[], by simp, by simp, rfl⟩
theorem readE_ok {s : St} {nm : ByteArray} {v : List UInt8} (hd : s.dn = false) (hn : nameB nm = true) (hv : s.now nm = some v) : readE s nm = 0 ∧ readB s nm = v := by
  have : readE s nm = 0 := by simp [readE, checkP, hd, hn, hv]
  exact ⟨this, by rw [readB, if_pos this, hv]; rfl⟩
end Go.Proofs.Ytddjkkmdcdiofaa
