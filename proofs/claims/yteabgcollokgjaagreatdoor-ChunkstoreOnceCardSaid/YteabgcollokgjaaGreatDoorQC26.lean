/- Q -/
import Derived.Test.YteabgcollokgjaaGreatDoorQC25
import Derived.Sort.OwnSortedInts
import Derived.Laws.Cells
import Derived.RegionTactic
import Derived.ChangeAlike
import Derived.Deep.RegionWith
set_option linter.unusedSimpArgs false
set_option linter.unusedVariables false
set_option maxRecDepth 100000
set_option maxHeartbeats 32000000
open Go.Lib (hid)
open List renaming getD_eq_getElem?_getD → zA,map_cons → zB,getElem?_eq_getElem → zC,mem_singleton → zD,sum_cons → zE
namespace Go.Proofs.YteabgcollokgjaaGreatDoor
section
open Go.RowKit Go.MapKept Go.ChangeMaps Go.Shelf Go.Sort
theorem append_zero_run (w:World) (t ty e:TypeId) (i:TypeInfo) (size:Nat) (ht:Tryz.prog.underlying t=some (.slice e)) (hi:Tryz.prog.info? e=some i)
 (v:Value) (n:Nat) (xs:List Value) (hown:w.ownsRow 0 e size v n xs) (A:Option Addr) (c:Nat):(Builtin.append_ #[t,t] ty #[v,.slice A 0 c]).run Tryz.prog w= .ok v w:=by
 rcases hown.2 with ⟨rfl,rfl⟩ | ⟨g,cap,cur,rfl,_,_,hnc,_⟩
 · cases A with
   | none=>simp [Builtin.append_,run_underlying ht,sizeOf,typeInfo,hi,Builtin.lenOf,Builtin.firstCells]
   | some ad=>
    have h0:=run_loadCells_list (P:=Tryz.prog) w ad [] (fun j v hj=>by simp at hj);simp only [List.length_nil] at h0;simp [Builtin.append_,run_underlying ht,sizeOf,typeInfo,hi,Builtin.lenOf,Builtin.firstCells,h0]
 cases A with
 | none=>simp [Builtin.append_,run_underlying ht,sizeOf,typeInfo,hi,Builtin.lenOf,Builtin.firstCells,hnc,storeCells]
 | some ad=>
  have h0:=run_loadCells_list (P:=Tryz.prog) w ad [] (fun j v hj=>by simp at hj);simp only [List.length_nil] at h0;simp [Builtin.append_,run_underlying ht,sizeOf,typeInfo,hi,Builtin.lenOf,Builtin.firstCells,hnc,h0,storeCells]
section
variable {b:Nat} {w0 w w':World} {l:List Ob}
theorem step_rowM {ops:Array Oper} {o:Oper} {a:Act} {K:Act->World->Prop} {Q:Exit->Act->World->Prop} {E:Prop} {t e:TypeId} {i:TypeInfo} {z:Value} {size bytes:Nat} (hS:SW b w0 l w) (k:Nat) {v:Value} {n:Nat} {xs:List Value} (hk:l[k]? =some (rowOb e size v n xs))
 (hgd:o.guard=none) (s x:Operand) (ho:o.op= .call { callee:=.builtin .append,args:= #[s,x],argTypes:= #[t,t] })
 (ht:Tryz.prog.underlying t=some (.slice e)) (hi:Tryz.prog.info? e=some i) (hz:i.zero=some z) (hsize:i.size=size) (hby:i.bytes=bytes) (hzs:z.cells.size=size) (hsz:0<size)
 (hs:a.eval s=v) (A:Option Addr) (m c:Nat) (news:List Value) (hx:a.eval x= .slice A m c) (hl:news.length=m*size) (hA:0<m->∃ ad,A=some ad/\∀ j u,news[j]? =some u->w.cell? (ad.add j)=some u) (h1:∀ u∈news,u.oneCell'=true)
 (h63:n+m<=maxLen) (hbytes:(n+m)*bytes<=140737488355328)
 (h:∀ v' w',SW b w0 (l.set k (rowOb e size v' (n+m) (xs++news))) w'->K (a.put o.dst v') w'):
 if Region.wanted o (yielded ops a.tmps)=true then Oper.wp Tryz.prog o a w K Q else E:=by
 rcases Nat.eq_zero_or_pos m with rfl | hm
 · have hw:Region.wanted o (yielded ops a.tmps)=true:=by simp [Region.wanted,hgd]
   rw [if_pos hw];have hn:news=[]:=List.eq_nil_of_length_eq_zero (by simpa using hl);subst hn;have hrun:=append_zero_run w t o.type e i size ht hi v n xs (hS.get k hk) A c;unfold Oper.wp execOp;simp only [ho,resolve,invoke,builtin,Sem.run_bind,Sem.run_pure,Result.andThen_ok,List.map_toArray,zB,List.map_nil,hs,hx,hrun];refine h v w ?_
   have e:l.set k (rowOb e size v (n+0) (xs++[]))=l:=by
    rw [List.append_nil];exact set_self l k _ hk
   rw [e];exact hS
 obtain ⟨ad,rfl,hnews⟩:=hA hm;exact step_append_row hgd s x t ho e i z size bytes ht hi hz hsize hby hzs hsz v n xs hs (hS.get k hk) ad m c news hx hl hnews h1 hm h63 hbytes (fun v' w' h2 hg hv=>h v' w' (hS.row k hk h2 hg hv))
end
section
variable {w:World} (t e:TypeId) (sz:Nat) (A:Option Addr) (n c i:Nat)
theorem elem_of (ht:Tryz.prog.underlying t=some (.slice e)):Tryz.prog.elem t=e:=by
 simp [Program.elem,ht]
end
end
section
open Go.RowKit Go.MapKept Go.ChangeMaps Go.Shelf Go.Sort
attribute [local go_sem] wext_cell
theorem cell_new (w:World) (t:TypeId) (v:Value):(w.alloc (.cells #[v] t)).cell? ⟨w.heap.size,0,none⟩=some v:=(IsB.new w t #[v]).cell 0
theorem one_at {w:World} {g:Nat} {v:Value} (h:w.cell? ⟨g,0,none⟩=some v):∀ j u,[v][j]? =some u->w.cell? ((⟨g,0,none⟩:Addr).add j)=some u:=fun j u hu=>by
 match j,hu with
 | 0,hu=>
  rw [lit_add,h];exact hu
theorem info3:(Tryz.prog.info? 3).map (fun i=>(i.zero,i.size,i.bytes))=some (some (.int .i64 0),1,8):=by kernel_rfl
end
section
open Go.RowKit Go.MapKept Go.ChangeMaps Go.Shelf Go.Sort
attribute [local go_sem] wext_cell

end
section
open Go.RowKit Go.MapKept Go.ChangeMaps Go.Shelf Go.Sort

def tbytes (L:List Int) (n:Nat) (k:Int):Nat->List UInt8
 | 0=>[]
 | c+1=>tbytes L n k c++[UInt8.ofNat (tnext L (n+c) k).toNat]
theorem tbytes_len (L:List Int) (n:Nat) (k:Int):∀ c,(tbytes L n k c).length=c
 | 0=>rfl
 | c+1=>by rw [tbytes,List.length_append,tbytes_len L n k c];rfl
theorem sb_const (w:World) (g:Nat) (hg:g=w.heap.size) (bs:List UInt8) (fr:Nat×Nat):SB (w.alloc (.cells (bs.map encU).toArray 5 fr)) (some ⟨g,0,none⟩) bs:=by
 subst hg;refine ⟨(fun e=>by cases e),fun ad e j u hu=>?_⟩;injection e with e;subst e;rw [lit_add,Nat.zero_add];have:(w.alloc (.cells (bs.map encU).toArray 5 fr)).heap[w.heap.size]? =some (.cells (bs.map encU).toArray 5 fr):=heap_alloc_new w _;rw [cell_of_row _ _ j _ _ _ this,List.getElem?_toArray];exact hu
theorem mk_slice (w:World) (n:Nat) (hn:n<=100000):∃ cs:Array Value,n<=cs.size/\(Instr.makeSlice 34 (.int .i64 0) (.int .i64 n)).run Tryz.prog w= .ok (.slice (some ⟨w.heap.size,0,none⟩) 0 n) (w.alloc (.cells cs 5)):=by
 obtain ⟨i0,hi,hz0,hz1,hz2⟩:=info_parts info5;have:=run_makeSlice (P:=Tryz.prog) w 34 5 i0 _ Tryz.underlying34 hi hz0 .i64 .i64 0 n (by omega) (by omega) (by rw [hz1];omega) (by rw [hz2];omega) (by omega);simp only [Int.toNat_zero,Int.toNat_natCast] at this;exact ⟨_,by rw [size_madeCells,hz1];omega,this⟩
section
variable {b:Nat} {w0 w w':World} {l:List Ob} {g:Nat} {A:Option Addr} {c:Nat} {L:List Int} {n:Nat}
theorem SW.newBuT {d:BD} {bs:List UInt8} (h:SW b w0 l w) (hb:Below w.heap.size w w') (hr:RB w' d bs) (hn:∀ g,blk d=some g->w.heap.size<=g):SW b w0 (bufOb d bs::l) w':=by
 have:=h.1.add (o':=bufOb d bs) hb hr (fun i hi=>⟨hn i hi,hr.lt hi⟩) (fun i hi=>hi.elim) (fun i hi=>hi.elim);exact ⟨this.1,h.2.trans this.2⟩
theorem SW.appB {d d':BD} {bs bs':List UInt8} (h:SW b w0 l w) (k:Nat) (hk:l[k]? =some (bufOb d bs)) (ha:AppB w d bs' d' w'):SW b w0 (l.set k (bufOb d' bs')) w':=⟨(h.1.app k hk ha).1,h.2.trans (h.1.app k hk ha).2⟩
end


end
section
open Go.RowKit Go.MapKept Go.ChangeMaps Go.Shelf Go.Sort
attribute [local go_sem] wext_cell

end
section
open Go.RowKit Go.MapKept Go.ChangeMaps Go.Shelf Go.Sort

section
variable {b:Nat} {w0 w:World} {l:List Ob}
theorem SW.rowCell {A:Option Addr} {ids:List ID} (h:SW b w0 l w) (hA:riOb A ids∈l) {k:Nat} (hk:k<ids.length) {i:ID} (hi:ids.getD k id0=i):∃ g,A=some ⟨g,0,none⟩/\w.cell? ⟨g,k*2,none⟩=some (.int .u64 i.1)/\w.cell? ⟨g,k*2+1,none⟩=some (.int .i64 i.2):=by
 have hri:=h.1.holds (riOb A ids) hA;cases A with
 | none=>
  have h0:=hri.1 rfl;rw [h0] at hk;simp at hk
 | some ad=>
  obtain ⟨g,rfl,hr,_⟩:=hri.2 ad rfl;obtain ⟨a0,a1,_,_⟩:=hr.cells hk hi;exact ⟨g,rfl,a0,a1⟩
end
end
section
open Go.RowKit
attribute [local go_sem] wext_cell
theorem getD_mem {α:Type} (l:List α) (d:α) (k:Nat) (h:k<l.length):l.getD k d∈l:=by
 rw [zA,zC h];exact List.getElem_mem h
theorem take_snoc {α:Type} (l:List α) (d:α) (k:Nat) (h:k<l.length):l.take (k+1)=l.take k++[l.getD k d]:=by
 rw [List.take_add_one,zA,zC h];rfl
end
section
open Go.RowKit Go.MapKept Go.ChangeMaps
attribute [local go_sem] wext_cell

end
section
open Go.RowKit Go.MapKept Go.ChangeMaps Go.Shelf Go.Sort
attribute [local go_sem] wext_cell

end
section
open Go.RowKit
attribute [local go_sem] wext_cell
theorem B_cell {w w':World} {b o:Nat} {v:Value} (h:Below w.heap.size w w') (hb:b<w.heap.size) (hc:w.cell? ⟨b,o,none⟩=some v):w'.cell? ⟨b,o,none⟩=some v:=(h.cell (p:=⟨b,o,none⟩) hb).trans hc
end
section
open Go.RowKit
attribute [local go_sem] wext_cell
theorem gb {p q:Bool} {w W:World} (h:p=q) (hb:Below w.heap.size w W):Gives (.bool p) w (.returned (.bool q)) W:=⟨by rw [h],hb⟩
theorem rHas_any (x:Nat) (l:List ID) (A:Option Addr) (c:Nat) (s z:Int) (w:World) (hl:RdID w x A l) (hn:l.length<=9223372036854775807):
    Calls Tryz.prog 49 #[.slice A l.length c,.agg #[.int .u64 s,.int .i64 z]] w (Gives (.bool (decide ((s,z)∈l))) w):=by
  have Hl:=hid hl
  clear hl
  go_enter Tryz.func49,Tryz.ntmps49
  go_wp2_with fail
  go_loopw [5] (fun v wr=>∃ k:Nat,k<=l.length/\v= .int .i64 k/\Hid (¬ (s,z)∈l.take k)/\IsB wr w.heap.size 31 #[.int .u64 s,.int .i64 z]/\Below w.heap.size w wr) (fun v _=>l.length-(intOf v).toNat)
  case atStart=>exact ⟨0,Nat.zero_le _,rfl,by simp [Hid],IsB.new _ _ _,bel1 _ _⟩
  case round=>
    obtain ⟨k,hk,rfl,Hk,hI,hbw⟩:=hrel
    have hi0:wr.cell? ⟨w.heap.size,0,none⟩=some (.int .u64 s):=by rw [hI.cell];rfl
    have hi1:wr.cell? ⟨w.heap.size,1,none⟩=some (.int .i64 z):=by rw [hI.cell];rfl
    have hIl:=hI.lt
    have HI:=hid hI
    have Hbw:=hid hbw
    clear hbw hI
    by_cases hlt:k<l.length
    · obtain ⟨b1,o1,rfl,hb1,_,hc1⟩:=Hl.out (by omega)
      obtain ⟨p,q,HJ⟩:∃ p q,Hid (l.getD k (0,0)=(p,q)):=⟨_,_,rfl⟩
      have p0:wr.cell? ⟨b1,o1+k*2,none⟩=some (.int .u64 p):=B_cell Hbw.out hb1 (hc1 k hlt 0 _ (by rw [HJ.out];rfl))
      have p1:wr.cell? ⟨b1,o1+k*2+1,none⟩=some (.int .i64 q):=B_cell Hbw.out hb1 (hc1 k hlt 1 _ (by rw [HJ.out];rfl))
      clear hc1
      have next:(p,q)≠(s,z)->¬ (s,z)∈l.take (k+1):=by
        intro hne hm
        rw [take_snoc _ (0,0) _ hlt,HJ.out] at hm
        rcases List.mem_append.1 hm with h | h
        · exact Hk.out h
        · rw [zD] at h;exact hne h.symm
      have Hnext:=hid next
      clear next
      by_cases e0:p=s
      · obtain rfl:=e0
        by_cases e1:q=z
        · obtain rfl:=e1
          have HT:Hid (decide ((p,q)∈l)=true):=by
            unfold Hid
            rw [decide_eq_true_eq, <- HJ.out]
            exact getD_mem _ _ _ hlt
          go_wp2_with fail
          go_quiet (fail)
          go_wp2_with fail
          go_ret
          exact gb HT.out (bdrewN Hbw.out _)
        · have hne:(q==z)=false:=by rw [beq_eq_false_iff_ne];exact e1
          have Hn:Hid (¬ (p,z)∈l.take (k+1)):=Hnext.out (fun h=>e1 (by injection h))
          clear e1
          go_wp2_with fail
          go_quiet (fail)
          go_wp2_with fail
          go_roundw
          case rel=>exact ⟨k+1,by omega,by go_num,Hn,HI.out.drewN _,bdrewN Hbw.out _⟩
          case measure=>simp [intOf];omega
      · have hne:(p==s)=false:=by rw [beq_eq_false_iff_ne];exact e0
        have Hn:Hid (¬ (s,z)∈l.take (k+1)):=Hnext.out (fun h=>e0 (by injection h))
        clear e0
        go_wp2_with fail
        go_quiet (fail)
        go_wp2_with fail
        go_roundw
        case rel=>exact ⟨k+1,by omega,by go_num,Hn,HI.out.drewN _,bdrewN Hbw.out _⟩
        case measure=>simp [intOf];omega
    · obtain rfl:k=l.length:=by omega
      have HF:Hid (decide ((s,z)∈l)=false):=by
        unfold Hid
        rw [decide_eq_false_iff_not]
        have:=Hk.out
        rwa [List.take_length] at this
      go_wp2_with fail
      go_ret
      exact gb HF.out Hbw.out
end
section
open Go.RowKit Go.MapKept Go.ChangeMaps Go.Shelf Go.Sort
theorem rdID_of {w:World} {A:Option Addr} {ids:List ID} (h:(riOb A ids).holds w):RdID w w.heap.size A ids:=by
 intro hp;cases A with
 | none=>
  have:=h.1 rfl;rw [this] at hp;simp at hp
 | some ad=>
  obtain ⟨g,rfl,hr,hlt⟩:=h.2 ad rfl;refine ⟨g,0,rfl,hlt,by omega,fun j hj i v hv=>?_⟩;obtain ⟨a0,a1,_,_⟩:=hr.cells hj rfl;match i,hv with
  | 0,hv=>
   simp [encID] at hv;subst hv;simpa using a0
  | 1,hv=>
   simp [encID] at hv;subst hv;simpa using a1
  | i+2,hv=>simp [encID] at hv
end
section
open Go.RowKit Go.MapKept Go.ChangeMaps Go.Shelf Go.Sort
attribute [local go_sem] wext_cell

end
section
open Go.RowKit Go.MapKept Go.ChangeMaps Go.Shelf Go.Sort
attribute [local go_sem] wext_cell

end
section
open Go.RowKit Go.MapKept Go.ChangeMaps Go.Shelf Go.Sort
attribute [local go_sem] wext_cell
end
section
open Go.RowKit Go.MapKept Go.ChangeMaps Go.Shelf Go.Sort
attribute [local go_sem] wext_cell
end
section
open Go.RowKit Go.MapKept Go.ChangeMaps Go.Shelf Go.Sort
abbrev nmS:ByteArray:=⟨#[115]⟩
theorem nmS_ok:nameV nmS=true:=by decide+kernel
abbrev bAB:List UInt8:=[97,98]
def iAB:ID:=fpOf bAB
theorem iAB_ne:iAB≠(1,1):=by decide+kernel
theorem iAB_ok:okID iAB:=okID_fp bAB (by decide)
theorem rs_const (w:World) (g:Nat) (hg:g=w.heap.size) (bs:List UInt8) (fr:Nat×Nat):RS (w.alloc (.cells (bs.map encU).toArray 5 fr)) (some ⟨g,0,none⟩) bs:=by
 subst hg;refine ⟨(fun e=>by cases e),fun ad e=>?_⟩;injection e with e;subst e;refine ⟨_,0,rfl,fun j hj=>?_⟩;have:(w.alloc (.cells (bs.map encU).toArray 5 fr)).heap[w.heap.size]? =some (.cells (bs.map encU).toArray 5 fr):=heap_alloc_new w _;rw [Nat.zero_add,cell_of_row _ _ j _ _ _ this,List.getElem?_toArray,List.getElem?_map,zC hj,zA,zC hj];rfl
theorem known33_any (w:World):Calls Tryz.prog 22 #[] w (fun e w'=>e= .returned (.bool true)/\Below w.heap.size w w'):=by
 have kc:=fun (w:World) (C:Array Value) (n c:Nat)=>Lib.run_convert_bytes_const (P:=Tryz.prog) w 34 5 C n c Tryz.underlying34 Tryz.underlying5
 have kc1:=fun (w:World) (o:Obj) (C:Array Value) (n c:Nat)=>(show Sem.run Tryz.prog (convert 34 34 (.slice (some ⟨w.heap.size+1,0,none⟩) n c)) ((w.alloc o).alloc (.cells C 5))= .ok (.slice (some ⟨w.heap.size+1,0,none⟩) n c) ((w.alloc o).alloc (.cells C 5 (C.size,C.size+1))) from by
  have:=kc (w.alloc o) C n c;simpa using this)
 go_enter Tryz.func22,Tryz.ntmps22;go_wp2_with fail
 refine (New_L _).mono ?_;rintro e w1 ⟨r,rfl,hs⟩;have S1:=hid hs;clear hs;go_wp2_with fail
 refine (Open_L (ns:=[fileN nmS]) S1.out nmS nmS_ok rfl rfl (fun _=>rfl) (by decide) (by simp) (by simp)).mono ?_;rintro e w2 ⟨x0,rfl,hs,hc,hC,hF,hnm,_,hw,hby⟩;have S2:=hid hs;have C2:=hid hc;have HC:=hid hC;have HF:=hid hF;have HN:=hid hnm;have HW:=hid hw;clear hs hc hC hF hnm hw hby S1;go_wp2_with fail
 have S2b:Hid (SW w.heap.size w (x0.obs []) (w2.alloc (Obj.cells #[Value.int .u8 97,Value.int .u8 98] 5 (2,3)))):=S2.out.alloc _;refine (PutN_L S2b.out C2.out _ 2 bAB (rs_const w2 _ rfl bAB (2,3)) (by decide) (by decide) (by rw [HC.out];rfl) (by rw [HC.out];decide)).mono ?_;rintro e w3 ⟨rfl,d,hs,hc⟩;have S3:=hid hs;have C3:=hid hc;clear hs hc S2b S2 C2;rw [show fpOf bAB=iAB from rfl] at *; obtain ⟨x1,HX⟩:∃ x1,Hid (putS x0 iAB d bAB=x1):=⟨_,rfl⟩;rw [HX.out] at S3 C3;have hps:x0.ps=x1.ps:=by rw [<- HX.out];rfl
 rw [hps];clear hps;go_wp2_with fail
 have S3b:=hid (((S3.out.newCell 31 #[.int .u64 iAB.1,.int .i64 iAB.2]).behind).alloc (Obj.cells #[Value.int .u8 97,Value.int .u8 98] 5 (2,3)));have hv1:valC x1 iAB=some bAB:=by rw [<- HX.out];exact (put_val x0 bAB d iAB).trans (if_pos rfl)
 refine (PutS_L S3b.out C3.out _ 2 bAB (rs_const (w3.alloc (Obj.cells #[.int .u64 iAB.1,.int .i64 iAB.2] 31)) _ (by simp) bAB (2,3)) (by decide) (by decide) hv1).mono ?_;rintro e w4 ⟨rfl,hs⟩;rw [show fpOf bAB=iAB from rfl];have S4:=hid (hs.alloc (Obj.cells #[.int .u64 iAB.1,.int .i64 iAB.2] 31));have HV1:=hid hv1;have hw1:x1.wait=1:=by rw [<- HX.out];simp [putS,HW.out]
 have hC1:x1.C=[(iAB,.pend d bAB)]:=by rw [<- HX.out];simp [putS,HC.out,setL]
 have hF1:x1.F=none:=by rw [<- HX.out];exact HF.out
 have hdA:=(C3.out.pA iAB d bAB (by rw [hC1];simp)).1;have hpn:pends x1.C=[iAB]:=by rw [hC1];simp [pends,Pl.A,hdA]
 clear hs S3b hv1;have HP:=hid (Pending_L S4.out 1 hw1);have HFL:=hid (Flush_L S4.out C3.out (by rw [hpn];simp) (by rw [hpn,hF1];simp [flen,frSum];decide));have HW1:=hid hw1;have HC1:=hid hC1;have HF1:=hid hF1;clear hw1 hC1 hF1 hdA hpn;go_wp2_with (first | (go_at_call 29;(with_reducible refine HP.out.mono ?_);rintro e w5 ⟨rfl,rfl⟩) | (go_at_call 35;(with_reducible refine HFL.out.mono ?_);refine halt_ ?_))
 rintro e w5 ⟨rfl,x2,hs,hc,hfl⟩;rw [<- hfl.ps];have S5:=hid hs;have C5:=hid hc;have hv2:valC x2 iAB=some bAB:=(hfl.val iAB).trans HV1.out;have HV2:=hid hv2;have HP2:=hid (Pending_L S5.out 0 hfl.wait);have HFL2:=hid hfl;have HG:=hid (Get_L S5.out C5.out iAB iAB_ok bAB hv2);have k0:w5.cell? ⟨w3.heap.size,0,none⟩=some (.int .u64 iAB.1):=(S5.out.cell 4 rfl).cell 0;have k1:w5.cell? ⟨w3.heap.size,1,none⟩=some (.int .i64 iAB.2):=(S5.out.cell 4 rfl).cell 1;clear hs hc hfl hv2 HP HFL;go_wp2_with (first | (go_at_call 29;(with_reducible refine HP2.out.mono ?_);rintro e w6 ⟨rfl,rfl⟩) | (go_at_call 30;(with_reducible refine HG.out.mono ?_);refine halt_ ?_))
 rintro e w6 ⟨d1,rfl,hs⟩;have S6:=hid hs;have k0:w6.cell? ⟨w3.heap.size,0,none⟩=some (.int .u64 iAB.1):=(S6.out.cell 5 rfl).cell 0;have k1:w6.cell? ⟨w3.heap.size,1,none⟩=some (.int .i64 iAB.2):=(S6.out.cell 5 rfl).cell 1;clear hs HP2 HG;go_wp2_with fail
 have S7:=hid ((S6.out.newIds2 iAB (1,1)).behind)
 have has2:∀ i,(asc x2.C i).isSome=decide (iAB=i):=fun i=>by
  rw [HFL2.out.has i,HC1.out];simp only [asc];by_cases e:iAB=i<;>simp [e]
 have hone:goneL x2.C [iAB,(1,1)]=[(iAB,true)]:=by
  have h1:=has2 iAB;have h2:=has2 (1,1);rw [decide_eq_true rfl] at h1;rw [decide_eq_false iAB_ne] at h2;simp [goneL,gstep,h1,h2,setL]
 refine (Rem_L S7.out C5.out _ 2 [iAB,(1,1)] (by simp) (fun i hi=>?_) (by simp)).mono ?_
 · simp only [List.mem_cons,List.not_mem_nil,or_false] at hi;rcases hi with rfl | rfl
   · exact iAB_ok
   exact okID_of (by decide) (by decide) (by decide) (by decide)
 rintro e w7 ⟨he,x3,hs,hc,hgn⟩;rw [hone] at he;subst he;rw [<- hgn.ps];have S8:=hid hs;have C8:=hid hc
 have hno:asc x3.C iAB=none:=by
  have:=hgn.has iAB;cases hx:asc x3.C iAB with
  | none=>rfl
  | some v=>rw [hx] at this;simp at this
 have k0:w7.cell? ⟨w3.heap.size,0,none⟩=some (.int .u64 iAB.1):=(S8.out.cell 6 rfl).cell 0;have k1:w7.cell? ⟨w3.heap.size,1,none⟩=some (.int .i64 iAB.2):=(S8.out.cell 6 rfl).cell 1;have HG:=hid (GetN_L S8.out C8.out iAB iAB_ok hno);clear hs hc hgn hno hone has2;go_wp2_with (go_at_call 30;(with_reducible refine HG.out.mono ?_);refine halt_ ?_)
 rintro e w8 ⟨d2,rfl,hs⟩;have S9:=hid hs;have v1:=conv_rb (S9.out.get 6 (o:=bufOb d1 bAB) rfl);clear hs HG k0 k1;go_wp2_with fail
 go_ret;exact ⟨rfl,S9.out.2⟩
section
variable {ns:List ByteArray} {b:Nat} {w0 w w':World} {l:List Ob} {x:SR}
theorem New_S (h:SW b w0 l w):Calls Tryz.prog 21 #[] w (fun e w'=>∃ r,e= .returned (vPtr (w.heap.size+2))/\SW b w0 (devOb (w.heap.size+2) r St.new::l) w'):=by
 refine (New_any w).mono ?_;rintro e w' ⟨rfl,hd,hb⟩;refine ⟨_,rfl,h.addN hb hd (fun i hi=>⟨?_,hd.own_lt hi⟩) (fun i hi=>⟨?_,hd.reads_lt hi⟩)⟩
 · rcases hi with hi | ⟨q,hq,rfl⟩
   · rcases hi with rfl | rfl | rfl | hi
     · omega
     · exact Nat.le_refl _
     · exact Nat.le_succ _
     cases hi
   cases hq
 obtain ⟨d,hd,_⟩:=hi;rcases hd with ⟨_,he,_⟩ | ⟨_,he,_⟩ | ⟨_,he,_⟩<;>cases he
theorem IDs_S (h:SW b w0 (x.obs l) w) (hn:x.C.length<=49):Calls Tryz.prog 28 #[vPtr x.ps] w (fun e w'=>∃ A c ys,e= .returned (.slice A ys.length c)/\ys.Perm (x.C.map (·.1))/\SortedI ys/\SW b w0 (riOb A ys::x.obs l) w'):=by
 refine (IDs_anyC h.1 hn).mono ?_;rintro e w' ⟨A,c,ys,rfl,hp,hs,hr,hb,hc⟩;have e:x.C.filter (fun c=>(fun _=>true) c.2)=x.C:=List.filter_eq_self.2 (fun _ _=>rfl);rw [e] at hp;refine ⟨A,c,ys,rfl,hp,hs,h.addN hb ⟨hr.1,fun ad e=>?_⟩ (fun i hi=>hi.elim) (fun i hi=>?_)⟩
 · obtain ⟨g,e1,h1,h2,h3⟩:=hr.2 ad e;exact ⟨g,e1,h1,h3⟩
 obtain ⟨g,e1,h1,h2,h3⟩:=hr.2 _ hi;injection e1 with e1;rw [e1];exact ⟨h2,h3⟩
end
end
section
open Go.RowKit Go.MapKept Go.ChangeMaps Go.Shelf Go.Sort
attribute [local go_sem] wext_cell
section
variable {ns:List ByteArray} {x:SR} {P:List (List UInt8)}
theorem sum_permI {a b:List Int} (h:a.Perm b):a.sum=b.sum:=by
 induction h with
 | nil=>rfl
 | cons c _ ih=>rw [zE,zE,ih]
 | swap c d l=>simp only [zE];omega
 | trans _ _ ih1 ih2=>exact ih1.trans ih2
end
end
section
open Go.RowKit Go.MapKept Go.ChangeMaps Go.Shelf Go.Sort
attribute [local go_sem] wext_cell
end
section
open Go.RowKit Go.MapKept Go.ChangeMaps Go.Shelf Go.Sort
attribute [local go_sem] wext_cell

end
section
open Go.RowKit Go.MapKept Go.ChangeMaps Go.Shelf Go.Sort

structure TS (Q:List (List UInt8)):Prop where
 inj:∀ a∈Q,∀ b∈Q,fpOf a=fpOf b->a=b
 lo:∀ a∈Q,1<=a.length
 hi:∀ a∈Q,a.length<=1000
 few:∀ cs:List (List UInt8),cs.Nodup->(∀ c∈cs,c∈Q)->cs.length<=49
structure TQ (Q:List (List UInt8)) (x:SR) (P:List (List UInt8)):Prop where
 has:∀ i,(asc x.C i).isSome=decide (i∈P.map fpOf)
 val:∀ bs∈P,valC x (fpOf bs)=some bs
 text:∀ bs∈P,bs∈Q
variable {Q:List (List UInt8)}
theorem TQ.empty {x:SR} (h:x.C=[]):TQ Q x []:=⟨fun i=>by rw [h];simp [asc],fun _ h=>(by cases h),fun _ h=>(by cases h)⟩
theorem TQ.key {x:SR} {P:List (List UInt8)} (h:TQ Q x P) {i:ID} (hi:i∈x.C.map (·.1)):∃ bs∈P,fpOf bs=i/\bs∈Q:=by
 have h1:=asc_key.2 hi;rw [h.has i,decide_eq_true_eq] at h1;obtain ⟨bs,hb,e⟩:=List.mem_map.1 h1;exact ⟨bs,hb,e,h.text bs hb⟩
theorem TS.ids (hQ:TS Q):∀ (L:List ID),L.Nodup->(∀ i∈L,∃ t∈Q,fpOf t=i)->∃ cs:List (List UInt8),cs.map fpOf=L/\cs.Nodup/\∀ c∈cs,c∈Q:=by
 intro L;induction L with
 | nil=>intro _ _;exact ⟨[],rfl,List.nodup_nil,by simp⟩
 | cons i L ih=>
  intro hn h;obtain ⟨cs,h1,h2,h3⟩:=ih (List.nodup_cons.1 hn).2 (fun j hj=>h j (List.mem_cons_of_mem _ hj));obtain ⟨t,ht,e⟩:=h i (by simp);refine ⟨t::cs,by rw [zB,h1,e],List.nodup_cons.2 ⟨fun hm=>(List.nodup_cons.1 hn).1 ?_,h2⟩,fun c hc=>?_⟩
  · rw [<- e, <- h1];exact List.mem_map.2 ⟨t,hm,rfl⟩
  rcases List.mem_cons.1 hc with rfl | hc
  · exact ht
  exact h3 c hc
theorem TS.fewI (hQ:TS Q) {L:List ID} (hn:L.Nodup) (h:∀ i∈L,∃ t∈Q,fpOf t=i):L.length<=49:=by
 obtain ⟨cs,h1,h2,h3⟩:=hQ.ids L hn h;rw [<- h1,List.length_map];exact hQ.few cs h2 h3
theorem TQ.few {x:SR} {P:List (List UInt8)} (h:TQ Q x P) (hQ:TS Q) (hn:(x.C.map (·.1)).Nodup):x.C.length<=49:=by
 have:=hQ.fewI hn (fun i hi=>by
  obtain ⟨bs,_,e,hb⟩:=h.key hi;exact ⟨bs,hb,e⟩)
 rwa [List.length_map] at this
theorem TQ.more {x:SR} {P:List (List UInt8)} (h:TQ Q x P) {bs:List UInt8} (hb:bs∈P):TQ Q x (P++[bs]):=by
 refine ⟨fun i=>?_,fun t ht=>?_,fun t ht=>?_⟩
 · rw [h.has i];congr 1
   simp only [List.map_append,zB,List.map_nil,List.mem_append,zD,eq_iff_iff];constructor
   · exact .inl
   rintro (h1 | rfl)
   · exact h1
   exact List.mem_map.2 ⟨bs,hb,rfl⟩
 · rcases List.mem_append.1 ht with ht | ht
   · exact h.val t ht
   rw [List.mem_singleton.1 ht];exact h.val bs hb
 rcases List.mem_append.1 ht with ht | ht
 · exact h.text t ht
 rw [List.mem_singleton.1 ht];exact h.text bs hb
theorem TQ.put {x:SR} {P:List (List UInt8)} (h:TQ Q x P) {bs:List UInt8} (ht:bs∈Q) (hn:asc x.C (fpOf bs)=none) (d:BD):TQ Q (putS x (fpOf bs) d bs) (P++[bs]):=by
 have hni:fpOf bs ∉ P.map fpOf:=fun hm=>by
  have:=h.has (fpOf bs);rw [hn] at this;simp [hm] at this
 refine ⟨fun i=>?_,fun t hm=>?_,fun t hm=>?_⟩
 · show (asc (setL x.C (fpOf bs) (Pl.pend d bs)) i).isSome=_;rw [asc_setL];by_cases e:fpOf bs=i
   · rw [if_pos e];simp [e]
   rw [if_neg e,h.has i];congr 1
   simp only [List.map_append,zB,List.map_nil,List.mem_append,zD,eq_iff_iff];constructor
   · exact .inl
   rintro (h1 | h1)
   · exact h1
   exact absurd h1.symm e
 · rw [put_val];rcases List.mem_append.1 hm with hm | hm
   · rw [if_neg (fun e=>hni (by rw [e];exact List.mem_map.2 ⟨t,hm,rfl⟩))];exact h.val t hm
   rw [List.mem_singleton.1 hm,if_pos rfl]
 rcases List.mem_append.1 hm with hm | hm
 · exact h.text t hm
 rw [List.mem_singleton.1 hm];exact ht
end
section
open Go.RowKit Go.MapKept Go.ChangeMaps
theorem roadd_any (a b:Nat) (w:World) (ha:a<2305843009213693951) (hb:b<2305843009213693951):Calls Tryz.prog 293 #[.int .u64 (a:Int),.int .u64 (b:Int)] w fun e w'=>e= .returned (.int .u64 (((a+b) % pP:Nat):Int))/\w=w':=by
 by_cases h:a+b<2305843009213693951
 · have e1:Hid ((a+b) % pP=a+b):=Nat.mod_eq_of_lt h;have h':¬ (2305843009213693951<=(a:Int)+b):=by omega
   go_enter Tryz.func293,Tryz.ntmps293;go_wp2
   go_ret;exact rint_u (q:=a+b) e1.out rfl
 have e1:Hid ((a+b) % pP=a+b-2305843009213693951):=by
  rw [Hid,Nat.mod_eq_sub_mod (by unfold pP;omega)];exact Nat.mod_eq_of_lt (by unfold pP;omega)
 have h':2305843009213693951<=(a:Int)+b:=by omega
 go_enter Tryz.func293,Tryz.ntmps293;go_wp2
 go_ret;have e2:((a+b-2305843009213693951:Nat):Int)=(a:Int)+b-2305843009213693951:=by omega
 rw [e1.out,e2];exact ⟨rfl,rfl⟩
theorem romul_any (a b:Nat) (w:World) (ha:a<2305843009213693951) (hb:b<2305843009213693951):Calls Tryz.prog 292 #[.int .u64 (a:Int),.int .u64 (b:Int)] w fun e w'=>e= .returned (.int .u64 (((a*b) % pP:Nat):Int))/\w=w':=by
 have HP:=hid (prod_lt ha hb);go_enter Tryz.func292,Tryz.ntmps292;go_wp2_with (first | (go_at_call 185;refine (Tryz.bits_Mul64 a b (by omega) (by omega) _).mono ?_;rintro e w' ⟨rfl,hw⟩;rw [hw]) | (go_at_call 293;refine halt_q ?_))
 have e1:=mul_lo (a*b);have e2:=mul_hi (a*b) HP.out;rw [Int.natCast_mul] at e1 e2
 have e3:(((a*b / 18446744073709551616*8+a*b % 18446744073709551616 / 2305843009213693952:Nat):Int)).tmod 2305843009213693951=(((a*b / 18446744073709551616*8+a*b % 18446744073709551616 / 2305843009213693952) % pP:Nat):Int):=by
  rw [Int.tmod_eq_emod_of_nonneg (by omega)];unfold pP;omega
 rw [e2,e1,e3];refine (roadd_any (a*b % 18446744073709551616 % 2305843009213693952 % pP) ((a*b / 18446744073709551616*8+a*b % 18446744073709551616 / 2305843009213693952) % pP) w (Nat.mod_lt _ pP_pos) (Nat.mod_lt _ pP_pos)).mono ?_;rintro e w' ⟨rfl,rfl⟩;rw [mul_sum _ HP.out];clear e1 e2 e3;go_wp2_with fail
 go_ret;exact ⟨rfl,rfl⟩
theorem power0_any (w:World):Calls Tryz.prog 291 #[.int .i64 0] w fun e w'=>e= .returned (.int .u64 1)/\w=w':=by
 have HB:Hid (∀ w,Calls Tryz.prog 151 #[.int .u64 0] w fun e w'=>e= .returned (.int .i64 0)/\w=w'):=fun w=>(Tryz.bits_Len 0 w (by omega) (by omega)).mono (fun e w' h=>⟨by rw [h.1];rfl,h.2.symm⟩);go_enter Tryz.func291,Tryz.ntmps291;go_wp2_with (go_at_call 151;(with_reducible refine (HB.out _).mono ?_);rintro e w1 ⟨rfl,rfl⟩)
 refine wp_loop_rounds 1 ?_;rw [rounds_succ];go_wp2_with fail
 go_ret;exact ⟨rfl,rfl⟩
def rollC (x cnt sum:Int):Array Value:=⟨.int .u8 x::(List.replicate 63 (.int .u8 0)++[.int .i64 1,.int .i64 cnt,.int .i64 0,.int .u64 sum,.int .u64 1])⟩
section
variable {b:Nat} {w0 w:World} {l:List Ob}
theorem rollNew_any (h:SW b w0 l w):Calls Tryz.prog 261 #[.int .i64 1] w (fun e w'=>∃ g,e= .returned (.tuple #[vPtr g,.int .i64 0])/\SW b w0 (cellOb g 361 (rollC 0 0 0)::l) w'):=by
 have S:=hid h;have HP:=hid power0_any;clear h;go_enter Tryz.func261,Tryz.ntmps261;go_wp2_with (go_at_call 291;(with_reducible refine (HP.out _).mono ?_);rintro e w1 ⟨rfl,rfl⟩)
 go_ret2;exact ⟨_,rfl,S.out.newCell 361 (rollC 0 0 0)⟩
theorem cutCheck_any (mn mx mk:Int) (w:World) (h1:1<=mn) (h2:mn<=mx) (h3:mx<=8192):Calls Tryz.prog 260 #[.agg #[.int .i64 mn,.int .i64 mx,.int .i64 1,.int .u64 mk]] w (fun e w'=>e= .returned (.int .i64 0)/\Below w.heap.size w w'):=by
 go_enter Tryz.func260,Tryz.ntmps260;go_wp2_with fail
 go_ret;exact ⟨rfl,bel1q _ _⟩
end
end
end Go.Proofs.YteabgcollokgjaaGreatDoor
