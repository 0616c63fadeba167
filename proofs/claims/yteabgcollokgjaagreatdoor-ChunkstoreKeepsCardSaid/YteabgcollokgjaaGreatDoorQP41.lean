/- Q -/
import Derived.Test.YteabgcollokgjaaGreatDoorRows
import Derived.KernelRfl
import Derived.SevenTiedAt
set_option linter.unusedSimpArgs false
set_option linter.unusedVariables false
set_option maxRecDepth 100000
set_option maxHeartbeats 32000000
namespace Go.Proofs.YteabgcollokgjaaGreatDoor
section
open Go
theorem ord:Tryz.prog.initOrder="harness 4a38bbb49ce63abfc4bef169534f954a347f1319075e6aeec9c8b86bb9d66d28 cut at stockyard/stockyardlaw33.ChunkstoreFull stockyard/stockyardlaw33.ChunkstoreNames stockyard/stockyardlaw33.ChunkstoreTrue stockyard/stockyardlaw33.ChunkstoreApart stockyard/stockyardlaw33.ChunkstorePlays stockyard/stockyardlaw33.ChunkstoreHeals stockyard/stockyardlaw33.ChunkstoreKeeps stockyard/stockyardlaw33.ChunkstoreOnce stockyard/stockyardlaw33.ChunkstoreContents stockyard/stockyardlaw40.CollectorSteps stockyard/stockyardlaw40.CollectorPlays stockyard/stockyardlaw40.CollectorEnds stockyard/stockyardlaw40.CollectorSessions stockyard/stockyardlaw40.CollectorSafe stockyard/stockyardlaw40.CollectorLive stockyard/stockyardlaw40.CollectorCrashes stockyard/stockyardlaw40.CollectorUploads":=by kernel_rfl
theorem lit:∃ L K:List Char,Tryz.prog.initOrder=String.ofList L∧(stripLifts liftWords (behindMainWord (wordsSigns L))).1=[]∧((stripLifts liftWords (behindMainWord (wordsSigns L))).2.head? ==some "cut".toList)=true∧(behindMainWord (wordsSigns L)).isEmpty=false∧
    ((behindMainWord (wordsSigns L)).head? ==some "carried".toList)=false∧(match wordsSigns L with | h::s::_=>if !isSumSigns s then none else if h=="harness".toList then some (true,s) else if h=="ownmain".toList then some (false,s) else none | _=>none)=some (true,K)∧("4a38bbb49ce63abfc4bef169534f954a347f1319075e6aeec9c8b86bb9d66d28":String)=String.ofList K:=⟨_,_,ord.trans rfl,by kernel_rfl,by kernel_rfl,by kernel_rfl,by kernel_rfl,by kernel_rfl,rfl⟩
theorem door8:(Tryz.prog.doorRows.any fun n=>["(look 8)","(look 8, test files too)","(list 7)","(look 7)"].any (endsIn · n))=false:=by kernel_rfl
theorem later0:Tryz.prog.laysLater=false:=by kernel_rfl
theorem reflect0:Tryz.prog.bearsReflect=false:=by kernel_rfl
theorem cardLooks:true=Tryz.prog.looks []:=by kernel_rfl
theorem doorFits_nil:Tryz.prog.doorFits []=true:=by
  unfold Program.doorFits
  simp only [door8,Bool.false_and,Bool.not_false,Bool.true_and,List.contains_nil,Bool.or_false,Bool.or_true,Bool.false_or,Bool.and_true]
theorem mayEnter_of (P:Program) (L:List Char) (h0:P.initOrder=String.ofList L) (h1:(stripLifts liftWords (behindMainWord (wordsSigns L))).1=[])
    (h2:((stripLifts liftWords (behindMainWord (wordsSigns L))).2.head? ==some "cut".toList)=true) (h3:(behindMainWord (wordsSigns L)).isEmpty=false)
    (hl:P.laysLater=false) (hr:P.bearsReflect=false) (hd:P.doorFits []=true):P.mayEnter=true:=by
  unfold Program.mayEnter
  rw [h0,String.toList_ofList]
  cases hW:behindMainWord (wordsSigns L) with
  | nil=>rw [hW] at h3;cases h3
  | cons c rest=>
    rw [hW] at h1 h2
    simp only [h1,h2,hl,hr,hd]
    simp
theorem mayEnter_ok:Tryz.prog.mayEnter=true:=by
  obtain ⟨L,K,h0,h1,h2,h3,h4,h5,h6⟩:=lit
  exact mayEnter_of Tryz.prog L h0 h1 h2 h3 later0 reflect0 doorFits_nil
theorem headLifts_of (P:Program) (L:List Char) (h0:P.initOrder=String.ofList L) (h1:(stripLifts liftWords (behindMainWord (wordsSigns L))).1=[])
    (h2:((stripLifts liftWords (behindMainWord (wordsSigns L))).2.head? ==some "cut".toList)=true):P.headLifts=[]:=by
  unfold Program.headLifts
  rw [h0,String.toList_ofList]
  simp only [h1,h2]
  simp
theorem headLifts_nil:Tryz.prog.headLifts=[]:=by
  obtain ⟨L,K,h0,h1,h2,h3,h4,h5,h6⟩:=lit
  exact headLifts_of Tryz.prog L h0 h1 h2
theorem liftsFinal_of (P:Program) (L:List Char) (h0:P.initOrder=String.ofList L) (h:P.headLifts=[]) (h4:((behindMainWord (wordsSigns L)).head? ==some "carried".toList)=false):P.liftsFinal=false:=by
  unfold Program.liftsFinal
  rw [h]
  simp only [h0,String.toList_ofList,h4]
  simp
theorem liftsFinal_no:Tryz.prog.liftsFinal=false:=by
  obtain ⟨L,K,h0,h1,h2,h3,h4,h5,h6⟩:=lit
  exact liftsFinal_of Tryz.prog L h0 headLifts_nil h4
theorem mainIs_of (P:Program) (L K:List Char) (n:String) (h0:P.initOrder=String.ofList L) (h5:(match wordsSigns L with | h::s::_=>if !isSumSigns s then none else if h=="harness".toList then some (true,s) else if h=="ownmain".toList then some (false,s) else none | _=>none)=some (true,K)) (h6:n=String.ofList K):P.mainIs=some (true,n.toList):=by
  unfold Program.mainIs
  subst h6
  rw [h0,String.toList_ofList (l:=L),String.toList_ofList (l:=K)]
  exact h5
theorem mainIs_ok:Tryz.prog.mainIs=some (true,"4a38bbb49ce63abfc4bef169534f954a347f1319075e6aeec9c8b86bb9d66d28".toList):=by
  obtain ⟨L,K,h0,h1,h2,h3,h4,h5,h6⟩:=lit
  exact mainIs_of Tryz.prog L K _ h0 h5 h6
end
end Go.Proofs.YteabgcollokgjaaGreatDoor
