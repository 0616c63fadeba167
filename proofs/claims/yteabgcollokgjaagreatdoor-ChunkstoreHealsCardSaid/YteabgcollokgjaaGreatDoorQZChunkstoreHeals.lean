/- Proves Rows.ChunkstoreHealsCardSaid: for every input ChunkstoreHeals returns true, and each argument reads afterwards as before. The card's five laid variables are not read. -/
import Derived.Test.YteabgcollokgjaaGreatDoorCards
import Derived.Test.YteabgcollokgjaaGreatDoorTie
import Derived.WalkKit
import Derived.ProofKit
import Derived.OpenShut
import Derived.ChangeOld
import Derived.Below
import Derived.Handy
import Derived.Lay
import Derived.SevenTiedAt
import Derived.Test.YteabgcollokgjaaGreatDoorQH37
import Derived.Test.YteabgcollokgjaaGreatDoorQH38
import Derived.Test.YteabgcollokgjaaGreatDoorQKChunkstoreHeals
import Derived.Test.YteabgcollokgjaaGreatDoorQJChunkstoreHeals
set_option linter.unusedSimpArgs false
set_option linter.unusedVariables false
set_option maxRecDepth 100000
set_option maxHeartbeats 32000000
namespace Go.Proofs.YteabgcollokgjaaGreatDoor.lawChunkstoreHeals
open Go.ChangeShapes Go.WideShapes Go.ChangeAt Go.RowKit

theorem own:ownKnob Tryz.prog.godebug=none:=by kernel_rfl
theorem laidOut:laidOutB Tryz.prog=true:=by kernel_rfl
set_option maxRecDepth 100000 in
theorem lifted (os:Os) (started:os.Started) (H:Type) (enc:TypeId×Value→H):
    ReturnsInHanded {} Tryz.checked os 8 .any (fun w args=>(Rows.chunkstoreHealsSpec.pre enc Tryz.prog Tryz.f8 [] false w args∧laidMetH Tryz.prog Rows.chunkstoreHealsRow.laid w)∧sizedMet enc Tryz.prog Tryz.f8 (OpenSpec.ofChange Rows.chunkstoreHealsSpec) false w args)
      (Rows.chunkstoreHealsSpec.post enc Tryz.prog Tryz.f8 false true false false):=by
  refine returnsInHanded_of_change_and (C:=Tryz.checked) (X:=fun w _=>laidMetH Tryz.prog Rows.chunkstoreHealsRow.laid w) (fun _ _ _ hh h=>h.of_heap hh) own started (by kernel_rfl) Tryz.func8
    (ChangeSpec.witness_shaped (enc:=enc) (C:=Tryz.checked) (os:=os) (X:=fun w _=>laidMetH Tryz.prog Rows.chunkstoreHealsRow.laid w) false (World.laidAll Tryz.prog os Rows.chunkstoreHealsRow.laid) #[.slice none 0 0,.slice none 0 0] 8 (World.laidAll_os _ _ _)
      (World.shaped_of_ZipB (by kernel_rfl) (by kernel_rfl)) (by kernel_rfl) (by kernel_rfl) (by kernel_rfl)
      (by rw [MakeChecks.laidMetH_plain _ _ _ (by kernel_rfl)];exact laidMet_laidAll _ (by kernel_rfl) (by kernel_rfl))) ?_
  intro W base args ds gs before hval0 hW _ _ _ _
  have hval:∀ (j:Nat) t v,Tryz.f8.params[j]? =some t→args[j]? =some v→Value.okWide Tryz.prog W .any base t v:=hval0
  have hW':=hW
  obtain ⟨p,q,hA0,hV,rfl,hfz,hnd⟩:=hW
  have hA:DataW.TrodAll enc Tryz.prog W 0 (fun _=>true) true Tryz.f8.params.toList args.toList ds p:=hA0
  rw [Tryz.params8] at hA hval
  obtain ⟨v0,vs0,d0,ds0,p0,q0,hargs,rfl,rfl,h0,r0⟩:=trodAll_cons hA
  obtain ⟨v1,vs1,d1,ds1,p1,q1,rfl,rfl,rfl,h1,r1⟩:=trodAll_cons r0
  obtain ⟨rfl,rfl,rfl⟩:=trodAll_nil r1
  obtain rfl:args= #[v0,v1]:=by cases args;simp_all
  obtain ⟨rfl,rfl⟩:=trodVars_none hV
  obtain ⟨a0,len0,cap0,rfl⟩:=okWide_slice Tryz.underlying47 (hval 0 47 v0 rfl rfl)
  have k0:=h0
  have lt0:∀ x∈p0,x.block<W.heap.size:=by obtain ⟨m,hm⟩:=k0;exact DataW.trod_lt m _ _ _ hm
  obtain ⟨z0,e0,w0,l0⟩:=open_nums h0
  obtain ⟨a1,len1,cap1,rfl⟩:=okWide_slice Tryz.underlying47 (hval 1 47 v1 rfl rfl)
  have k1:=h1
  have lt1:∀ x∈p1,x.block<W.heap.size:=by obtain ⟨m,hm⟩:=k1;exact DataW.trod_lt m _ _ _ hm
  obtain ⟨z1,e1,w1,l1⟩:=open_nums h1
  clear hA0 hval0
  simp only [List.append_nil] at hW'
  refine (law8 e0 cap0 e1 cap1 W w0 w1 l0 l1).mono fun e W' ⟨he,bel⟩=>?_
  subst he
  exact ⟨_,rfl,_,_,_,[],_,[],hW',trodAll_mk1 (shut_bool Tryz.underlying4 _),(trodAll_cons_mk (Below.trod laidOut (by kernel_rfl) (of_decide_eq_true (by kernel_rfl)) k0 bel lt0) (trodAll_cons_mk (Below.trod laidOut (by kernel_rfl) (of_decide_eq_true (by kernel_rfl)) k1 bel lt1) trodAll_mk0)),rfl,bel.frame _,fun h=>by cases h⟩
theorem over:Rows.ChunkstoreHealsSaid:=
  OpenClaim.holds_of_wide 8 Tryz.f8 rfl rfl rfl rfl rfl rfl rfl ⟨rfl,rfl,rfl,rfl,rfl⟩ rfl rfl rfl rfl rfl (by kernel_rfl) Tryz.func8 facts
    inst (by unfold Func.isWrapper;rw [if_neg (by decide+kernel)];exact ⟨rfl,rfl⟩)
    (fun os started H enc _=>lifted os started H enc)
end Go.Proofs.YteabgcollokgjaaGreatDoor.lawChunkstoreHeals
namespace Go.Proofs.YteabgcollokgjaaGreatDoor
open Go
theorem chunkstoreHeals_card_holds:Rows.ChunkstoreHealsCardSaid:=
  Claim7.holds_tied_plain_at .later [] [.data,.data,.data,.sentinel,.sentinel] true (true,"4a38bbb49ce63abfc4bef169534f954a347f1319075e6aeec9c8b86bb9d66d28") true lawChunkstoreHeals.over (fun _ h=>by cases h) lawChunkstoreHeals.cardWf (fun _ h=>by cases h) chunkstoreHeals_row_tie rfl ⟨rfl,rfl⟩ mainIs_ok rfl
    (fun f fn hf hfn=>by
      obtain rfl:f=8:=Option.some.inj (lawChunkstoreHeals.named.symm.trans hf) |>.symm
      obtain rfl:fn=Tryz.f8:=(Option.some.inj (Tryz.func8.symm.trans hfn)).symm
      exact ⟨cardLooks,fun j t ht=>by
        rw [Tryz.params8] at ht
        have hm:t∈[47,47]:=by simpa using Array.mem_of_getElem? ht
        exact (show Tryz.prog.wantsStandIn t=false by simpa using List.all_eq_true.1 lawChunkstoreHeals.noStand t hm)⟩)
    lawChunkstoreHeals.cardGoes
#print axioms chunkstoreHeals_card_holds
end Go.Proofs.YteabgcollokgjaaGreatDoor
