/- Proves Rows.ChunkstoreKeepsCardSaid: for every input ChunkstoreKeeps returns true, and each argument reads afterwards as before. The card's five laid variables are not read. -/
import Derived.Test.YteabgcollokgjaaGreatDoorCards
import Derived.Test.YteabgcollokgjaaGreatDoorTie
import Derived.WalkKit
import Derived.ProofKit
import Derived.OpenShut
import Derived.ChangeOld
import Derived.Below
import Derived.Handy
import Derived.Lay
import Derived.SevenTiedAt
import Derived.LaidLaws
import Derived.Test.YteabgcollokgjaaGreatDoorQP40
import Derived.Test.YteabgcollokgjaaGreatDoorQP41
import Derived.Test.YteabgcollokgjaaGreatDoorQKChunkstoreKeeps
import Derived.Test.YteabgcollokgjaaGreatDoorQJChunkstoreKeeps
set_option linter.unusedSimpArgs false
set_option linter.unusedVariables false
set_option maxRecDepth 100000
set_option maxHeartbeats 32000000
namespace Go.Proofs.YteabgcollokgjaaGreatDoor.lawChunkstoreKeeps
open Go.ChangeShapes Go.WideShapes Go.ChangeAt Go.RowKit

theorem own:ownKnob Tryz.prog.godebug=none:=by kernel_rfl
theorem laidOut:laidOutB Tryz.prog=true:=by kernel_rfl
theorem syn_of_laid {W:World} (h:laidMetH Tryz.prog Rows.chunkstoreKeepsRow.laid W):Syn W:=by
  rw [MakeChecks.laidMetH_plain _ _ _ (by kernel_rfl)] at h
  obtain ⟨ps,h, -⟩:=h
  obtain ⟨-, -, -, -, -, q1, -, -, -, -, h, -⟩:=h
  obtain ⟨-, -, -, -, -, q2, -, -, -, -, h, -⟩:=h
  obtain ⟨-, -, -, -, -, q3, -, -, -, -, h, -⟩:=h
  obtain ⟨-, -, -, -, -, q4, -, -, -, -, h, -⟩:=h
  obtain ⟨g,t,cs,fuel,p,q,hg,ht,hv,hd, -, -⟩:=h
  obtain rfl:=Option.some.inj ((show Tryz.prog.globalNamed "strconv.ErrSyntax"=some 0 by kernel_rfl).symm.trans hg)
  obtain rfl:=Option.some.inj ((show (Tryz.prog.globals[0]?).map (·.type)=some 207 by kernel_rfl).symm.trans ht)
  obtain ⟨l0⟩:=cs
  obtain ⟨f1,u,v,rfl, -, -⟩:=iface_of_trod Tryz.underlying207 hd
  exact ⟨.iface u v,by simpa using World.var?_cell hg hv 0,.inr ⟨u,v,rfl⟩⟩
set_option maxRecDepth 100000 in
theorem lifted (os:Os) (started:os.Started) (H:Type) (enc:TypeId×Value→H):
    ReturnsInHanded {} Tryz.checked os 9 .any (fun w args=>(Rows.chunkstoreKeepsSpec.pre enc Tryz.prog Tryz.f9 [] false w args∧laidMetH Tryz.prog Rows.chunkstoreKeepsRow.laid w)∧sizedMet enc Tryz.prog Tryz.f9 (OpenSpec.ofChange Rows.chunkstoreKeepsSpec) false w args)
      (Rows.chunkstoreKeepsSpec.post enc Tryz.prog Tryz.f9 false true false false):=by
  refine returnsInHanded_of_change_and (C:=Tryz.checked) (X:=fun w _=>laidMetH Tryz.prog Rows.chunkstoreKeepsRow.laid w) (fun _ _ _ hh h=>h.of_heap hh) own started (by kernel_rfl) Tryz.func9
    (ChangeSpec.witness_shaped (enc:=enc) (C:=Tryz.checked) (os:=os) (X:=fun w _=>laidMetH Tryz.prog Rows.chunkstoreKeepsRow.laid w) false (World.laidAll Tryz.prog os Rows.chunkstoreKeepsRow.laid) #[.slice none 0 0] 8 (World.laidAll_os _ _ _)
      (World.shaped_of_ZipB (by kernel_rfl) (by kernel_rfl)) (by kernel_rfl) (by kernel_rfl) (by kernel_rfl)
      (by rw [MakeChecks.laidMetH_plain _ _ _ (by kernel_rfl)];exact laidMet_laidAll _ (by kernel_rfl) (by kernel_rfl))) ?_
  intro W base args ds gs before hval0 hW h1 h2 h3 h4
  have hsyn:Syn W:=by first | exact syn_of_laid h1 | exact syn_of_laid h2 | exact syn_of_laid h3 | exact syn_of_laid h4
  clear h1 h2 h3 h4
  have hval:∀ (j:Nat) t v,Tryz.f9.params[j]? =some t→args[j]? =some v→Value.okWide Tryz.prog W .any base t v:=hval0
  have hW':=hW
  obtain ⟨p,q,hA0,hV,rfl,hfz,hnd⟩:=hW
  have hA:DataW.TrodAll enc Tryz.prog W 0 (fun _=>true) true Tryz.f9.params.toList args.toList ds p:=hA0
  rw [Tryz.params9] at hA hval
  obtain ⟨v0,vs0,d0,ds0,p0,q0,hargs,rfl,rfl,h0,r0⟩:=trodAll_cons hA
  obtain ⟨rfl,rfl,rfl⟩:=trodAll_nil r0
  obtain rfl:args= #[v0]:=by cases args;simp_all
  obtain ⟨rfl,rfl⟩:=trodVars_none hV
  obtain ⟨a0,len0,cap0,rfl⟩:=okWide_slice Tryz.underlying47 (hval 0 47 v0 rfl rfl)
  have k0:=h0
  have lt0:∀ x∈p0,x.block<W.heap.size:=by obtain ⟨m,hm⟩:=k0;exact DataW.trod_lt m _ _ _ hm
  obtain ⟨z0,e0,w0,l0⟩:=open_nums h0
  clear hA0 hval0
  simp only [List.append_nil] at hW'
  refine (law9 e0 cap0 W w0 l0 hsyn).mono fun e W' ⟨he,bel⟩=>?_
  subst he
  exact ⟨_,rfl,_,_,_,[],_,[],hW',trodAll_mk1 (shut_bool Tryz.underlying4 _),(trodAll_cons_mk (Below.trod laidOut (by kernel_rfl) (of_decide_eq_true (by kernel_rfl)) k0 bel lt0) trodAll_mk0),rfl,bel.frame _,fun h=>by cases h⟩
theorem over:Rows.ChunkstoreKeepsSaid:=
  OpenClaim.holds_of_wide 9 Tryz.f9 rfl rfl rfl rfl rfl rfl rfl ⟨rfl,rfl,rfl,rfl,rfl⟩ rfl rfl rfl rfl rfl (by kernel_rfl) Tryz.func9 facts
    inst (by unfold Func.isWrapper;rw [if_neg (by decide+kernel)];exact ⟨rfl,rfl⟩)
    (fun os started H enc _=>lifted os started H enc)
end Go.Proofs.YteabgcollokgjaaGreatDoor.lawChunkstoreKeeps
namespace Go.Proofs.YteabgcollokgjaaGreatDoor
open Go
theorem chunkstoreKeeps_card_holds:Rows.ChunkstoreKeepsCardSaid:=
  Claim7.holds_tied_plain_at .later [] [.data,.data,.data,.sentinel,.sentinel] true (true,"4a38bbb49ce63abfc4bef169534f954a347f1319075e6aeec9c8b86bb9d66d28") true lawChunkstoreKeeps.over (fun _ h=>by cases h) lawChunkstoreKeeps.cardWf (fun _ h=>by cases h) chunkstoreKeeps_row_tie rfl ⟨rfl,rfl⟩ mainIs_ok rfl
    (fun f fn hf hfn=>by
      obtain rfl:f=9:=Option.some.inj (lawChunkstoreKeeps.named.symm.trans hf) |>.symm
      obtain rfl:fn=Tryz.f9:=(Option.some.inj (Tryz.func9.symm.trans hfn)).symm
      exact ⟨cardLooks,fun j t ht=>by
        rw [Tryz.params9] at ht
        have hm:t∈[47]:=by simpa using Array.mem_of_getElem? ht
        exact (show Tryz.prog.wantsStandIn t=false by simpa using List.all_eq_true.1 lawChunkstoreKeeps.noStand t hm)⟩)
    lawChunkstoreKeeps.cardGoes
#print axioms chunkstoreKeeps_card_holds
end Go.Proofs.YteabgcollokgjaaGreatDoor
