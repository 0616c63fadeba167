/- Q -/
import Derived.Test.YteabgcollokgjaaGreatDoorQA30
set_option linter.unusedSimpArgs false
set_option linter.unusedVariables false
set_option maxRecDepth 100000
set_option maxHeartbeats 32000000
open Go.Lib (hid)
open List renaming getD_eq_getElem?_getD → zA,length_map → zB,getElem?_eq_getElem → zC,sum_cons → zD,setIfInBounds_toArray → zE
namespace Go.Proofs.YteabgcollokgjaaGreatDoor
section
open Go.RowKit Go.MapKept Go.ChangeMaps Go.Shelf Go.Sort
abbrev nmS:ByteArray:=⟨#[115]⟩
theorem nmS_ok:nameV nmS=true:=by decide+kernel
abbrev bAB:List UInt8:=[97,98]
def iAB:ID:=fpOf bAB
theorem iAB_ne:iAB≠(1,1):=by decide+kernel
theorem iAB_ok:okID iAB:=okID_fp bAB (by decide)
theorem rs_const (w:World) (g:Nat) (hg:g=w.heap.size) (bs:List UInt8) (fr:Nat×Nat):RS (w.alloc (.cells (bs.map encU).toArray 5 fr)) (some ⟨g,0,none⟩) bs:=by
 subst hg;refine ⟨(fun e=>by cases e),fun ad e=>?_⟩;injection e with e;subst e;refine ⟨_,0,rfl,fun j hj=>?_⟩;have:(w.alloc (.cells (bs.map encU).toArray 5 fr)).heap[w.heap.size]? =some (.cells (bs.map encU).toArray 5 fr):=heap_alloc_new w _;rw [Nat.zero_add,cell_of_row _ _ j _ _ _ this,List.getElem?_toArray,List.getElem?_map,zC hj,zA,zC hj];rfl
theorem known33_any (w:World):Calls Tryz.prog 22 #[] w (fun e w'=>e= .returned (.bool true)/\Below w.heap.size w w'):=by
 have kc:=fun (w:World) (C:Array Value) (n c:Nat)=>Lib.run_convert_bytes_const (P:=Tryz.prog) w 34 5 C n c Tryz.underlying34 Tryz.underlying5
 have kc1:=fun (w:World) (o:Obj) (C:Array Value) (n c:Nat)=>(show Sem.run Tryz.prog (convert 34 34 (.slice (some ⟨w.heap.size+1,0,none⟩) n c)) ((w.alloc o).alloc (.cells C 5))= .ok (.slice (some ⟨w.heap.size+1,0,none⟩) n c) ((w.alloc o).alloc (.cells C 5 (C.size,C.size+1))) from by
  have:=kc (w.alloc o) C n c;simpa using this)
 go_enter Tryz.func22,Tryz.ntmps22;go_wp2_with fail
 refine (New_L _).mono ?_;rintro e w1 ⟨r,rfl,hs⟩;have S1:=hid hs;clear hs;go_wp2_with fail
 refine (Open_L (ns:=[fileN nmS]) S1.out nmS nmS_ok rfl rfl (fun _=>rfl) (by decide) (by simp) (by simp)).mono ?_;rintro e w2 ⟨x0,rfl,hs,hc,hC,hF,hnm,_,hw,hby⟩;have S2:=hid hs;have C2:=hid hc;have HC:=hid hC;have HF:=hid hF;have HN:=hid hnm;have HW:=hid hw;clear hs hc hC hF hnm hw hby S1;go_wp2_with fail
 have S2b:Hid (SW w.heap.size w (x0.obs []) (w2.alloc (Obj.cells #[Value.int .u8 97,Value.int .u8 98] 5 (2,3)))):=S2.out.alloc _;refine (PutN_L S2b.out C2.out _ 2 bAB (rs_const w2 _ rfl bAB (2,3)) (by decide) (by decide) (by rw [HC.out];rfl) (by rw [HC.out];decide)).mono ?_;rintro e w3 ⟨rfl,d,hs,hc⟩;have S3:=hid hs;have C3:=hid hc;clear hs hc S2b S2 C2;rw [show fpOf bAB=iAB from rfl] at *; obtain ⟨x1,HX⟩:∃ x1,Hid (putS x0 iAB d bAB=x1):=⟨_,rfl⟩;rw [HX.out] at S3 C3;have hps:x0.ps=x1.ps:=by rw [<- HX.out];rfl
 rw [hps];clear hps;go_wp2_with fail
 have S3b:=hid (((S3.out.newCell 31 #[.int .u64 iAB.1,.int .i64 iAB.2]).behind).alloc (Obj.cells #[Value.int .u8 97,Value.int .u8 98] 5 (2,3)));have hv1:valC x1 iAB=some bAB:=by rw [<- HX.out];exact (put_val x0 bAB d iAB).trans (if_pos rfl)
 refine (PutS_L S3b.out C3.out _ 2 bAB (rs_const (w3.alloc (Obj.cells #[.int .u64 iAB.1,.int .i64 iAB.2] 31)) _ (by simp) bAB (2,3)) (by decide) (by decide) hv1).mono ?_;rintro e w4 ⟨rfl,hs⟩;rw [show fpOf bAB=iAB from rfl];have S4:=hid (hs.alloc (Obj.cells #[.int .u64 iAB.1,.int .i64 iAB.2] 31));have HV1:=hid hv1;have hw1:x1.wait=1:=by rw [<- HX.out];simp [putS,HW.out]
 have hC1:x1.C=[(iAB,.pend d bAB)]:=by rw [<- HX.out];simp [putS,HC.out,setL]
 have hF1:x1.F=none:=by rw [<- HX.out];exact HF.out
 have hdA:=(C3.out.pA iAB d bAB (by rw [hC1];simp)).1;have hpn:pends x1.C=[iAB]:=by rw [hC1];simp [pends,Pl.A,hdA]
 clear hs S3b hv1;have HP:=hid (Pending_L S4.out 1 hw1);have HFL:=hid (Flush_L S4.out C3.out (by rw [hpn];simp) (by rw [hpn,hF1];simp [flen,frSum];decide));have HW1:=hid hw1;have HC1:=hid hC1;have HF1:=hid hF1;clear hw1 hC1 hF1 hdA hpn;go_wp2_with (first | (go_at_call 29;(with_reducible refine HP.out.mono ?_);rintro e w5 ⟨rfl,rfl⟩) | (go_at_call 35;(with_reducible refine HFL.out.mono ?_);refine halt_ ?_))
 rintro e w5 ⟨rfl,x2,hs,hc,hfl⟩;rw [<- hfl.ps];have S5:=hid hs;have C5:=hid hc;have hv2:valC x2 iAB=some bAB:=(hfl.val iAB).trans HV1.out;have HV2:=hid hv2;have HP2:=hid (Pending_L S5.out 0 hfl.wait);have HFL2:=hid hfl;have HG:=hid (Get_L S5.out C5.out iAB iAB_ok bAB hv2);have k0:w5.cell? ⟨w3.heap.size,0,none⟩=some (.int .u64 iAB.1):=(S5.out.cell 4 rfl).cell 0;have k1:w5.cell? ⟨w3.heap.size,1,none⟩=some (.int .i64 iAB.2):=(S5.out.cell 4 rfl).cell 1;clear hs hc hfl hv2 HP HFL;go_wp2_with (first | (go_at_call 29;(with_reducible refine HP2.out.mono ?_);rintro e w6 ⟨rfl,rfl⟩) | (go_at_call 30;(with_reducible refine HG.out.mono ?_);refine halt_ ?_))
 rintro e w6 ⟨d1,rfl,hs⟩;have S6:=hid hs;have k0:w6.cell? ⟨w3.heap.size,0,none⟩=some (.int .u64 iAB.1):=(S6.out.cell 5 rfl).cell 0;have k1:w6.cell? ⟨w3.heap.size,1,none⟩=some (.int .i64 iAB.2):=(S6.out.cell 5 rfl).cell 1;clear hs HP2 HG;go_wp2_with fail
 have S7:=hid ((S6.out.newIds2 iAB (1,1)).behind)
 have has2:∀ i,(asc x2.C i).isSome=decide (iAB=i):=fun i=>by
  rw [HFL2.out.has i,HC1.out];simp only [asc];by_cases e:iAB=i<;>simp [e]
 have hone:goneL x2.C [iAB,(1,1)]=[(iAB,true)]:=by
  have h1:=has2 iAB;have h2:=has2 (1,1);rw [decide_eq_true rfl] at h1;rw [decide_eq_false iAB_ne] at h2;simp [goneL,gstep,h1,h2,setL]
 refine (Rem_L S7.out C5.out _ 2 [iAB,(1,1)] (by simp) (fun i hi=>?_) (by simp)).mono ?_
 · simp only [List.mem_cons,List.not_mem_nil,or_false] at hi;rcases hi with rfl | rfl
   · exact iAB_ok
   exact okID_of (by decide) (by decide) (by decide) (by decide)
 rintro e w7 ⟨he,x3,hs,hc,hgn⟩;rw [hone] at he;subst he;rw [<- hgn.ps];have S8:=hid hs;have C8:=hid hc
 have hno:asc x3.C iAB=none:=by
  have:=hgn.has iAB;cases hx:asc x3.C iAB with
  | none=>rfl
  | some v=>rw [hx] at this;simp at this
 have k0:w7.cell? ⟨w3.heap.size,0,none⟩=some (.int .u64 iAB.1):=(S8.out.cell 6 rfl).cell 0;have k1:w7.cell? ⟨w3.heap.size,1,none⟩=some (.int .i64 iAB.2):=(S8.out.cell 6 rfl).cell 1;have HG:=hid (GetN_L S8.out C8.out iAB iAB_ok hno);clear hs hc hgn hno hone has2;go_wp2_with (go_at_call 30;(with_reducible refine HG.out.mono ?_);refine halt_ ?_)
 rintro e w8 ⟨d2,rfl,hs⟩;have S9:=hid hs;have v1:=conv_rb (S9.out.get 6 (o:=bufOb d1 bAB) rfl);clear hs HG k0 k1;go_wp2_with fail
 go_ret;exact ⟨rfl,S9.out.2⟩
section
variable {ns:List ByteArray} {b:Nat} {w0 w w':World} {l:List Ob} {x:SR}
theorem New_S (h:SW b w0 l w):Calls Tryz.prog 21 #[] w (fun e w'=>∃ r,e= .returned (vPtr (w.heap.size+2))/\SW b w0 (devOb (w.heap.size+2) r St.new::l) w'):=by
 refine (New_any w).mono ?_;rintro e w' ⟨rfl,hd,hb⟩;refine ⟨_,rfl,h.addN hb hd (fun i hi=>⟨?_,hd.own_lt hi⟩) (fun i hi=>⟨?_,hd.reads_lt hi⟩)⟩
 · rcases hi with hi | ⟨q,hq,rfl⟩
   · rcases hi with rfl | rfl | rfl | hi
     · omega
     · exact Nat.le_refl _
     · exact Nat.le_succ _
     cases hi
   cases hq
 obtain ⟨d,hd,_⟩:=hi;rcases hd with ⟨_,he,_⟩ | ⟨_,he,_⟩ | ⟨_,he,_⟩<;>cases he
theorem IDs_S (h:SW b w0 (x.obs l) w) (hn:x.C.length<=49):Calls Tryz.prog 28 #[vPtr x.ps] w (fun e w'=>∃ A c ys,e= .returned (.slice A ys.length c)/\ys.Perm (x.C.map (·.1))/\SortedI ys/\SW b w0 (riOb A ys::x.obs l) w'):=by
 refine (IDs_anyC h.1 hn).mono ?_;rintro e w' ⟨A,c,ys,rfl,hp,hs,hr,hb,hc⟩;have e:x.C.filter (fun c=>(fun _=>true) c.2)=x.C:=List.filter_eq_self.2 (fun _ _=>rfl);rw [e] at hp;refine ⟨A,c,ys,rfl,hp,hs,h.addN hb ⟨hr.1,fun ad e=>?_⟩ (fun i hi=>hi.elim) (fun i hi=>?_)⟩
 · obtain ⟨g,e1,h1,h2,h3⟩:=hr.2 ad e;exact ⟨g,e1,h1,h3⟩
 obtain ⟨g,e1,h1,h2,h3⟩:=hr.2 _ hi;injection e1 with e1;rw [e1];exact ⟨h2,h3⟩
theorem Same_S {A B:Option Addr} {xs ys:List ID} (h:SW b w0 l w) (hA:riOb A xs∈l) (hB:riOb B ys∈l) (n1:xs.length<=100000) (n2:ys.length<=100000) (c d:Nat) {v:Bool} (hv:decide (xs=ys)=v):
 Calls Tryz.prog 64 #[.slice A xs.length c,.slice B ys.length d] w (fun e w'=>e= .returned (.bool v)/\SW b w0 l w'):=by
 refine (SameIDs_any w.heap.size w.heap.size xs ys A B c d w (rdID_of (h.1.holds _ hA)) (rdID_of (h.1.holds _ hB)) (by omega) (by omega)).mono ?_;rintro e w' ⟨rfl,hb⟩;rw [hv];exact ⟨rfl,h.on hb⟩
end
end
section
open Go.RowKit Go.MapKept Go.ChangeMaps Go.Shelf Go.Sort
attribute [local go_sem] wext_cell
structure IsI (ns:List ByteArray) (x:SR) (r:R3) (P:List (List UInt8)):Prop where
 cl:Cl ns x
 tx:TX x P
 rtx:RTX r P
 pn:∀ f∈r.E,f.pn=true↔f.id∈pends x.C
theorem ids_strict {r:R3} {P:List (List UInt8)} (h:RTX r P):r.ids.Pairwise (fun a b=>ltID a b=true):=by
 unfold R3.ids;exact List.pairwise_map.2 h.sort
theorem ids_nodup {r:R3} {P:List (List UInt8)} (h:RTX r P):r.ids.Nodup:=(ids_strict h).imp (fun hlt e=>by
 subst e;rw [ltI_irr] at hlt;cases hlt)
section
variable {ns:List ByteArray} {x:SR} {r:R3} {P:List (List UInt8)}
theorem IsI.key (h:IsI ns x r P) (i:ID):i∈x.C.map (·.1)↔i∈r.ids:=by
 rw [h.rtx.has i, <- asc_key,h.tx.has i];simp
theorem IsI.val (h:IsI ns x r P) {f:RE} (hf:f∈r.E):valC x f.id=some f.bs:=by
 obtain ⟨h1,h2⟩:=h.rtx.val f hf;have h3:f.id∈P.map fpOf:=(h.rtx.has f.id).1 (List.mem_map.2 ⟨f,hf,rfl⟩);obtain ⟨t,ht,e⟩:=List.mem_map.1 h3;have e2:=text_inj (h.tx.text t ht) h2 (e.trans h1.symm);have:=h.tx.val t ht;rw [e,e2] at this;exact this
theorem IsI.there (h:IsI ns x r P) {f:RE} (hf:f∈r.E):(asc x.C f.id).isSome=true:=by
 rw [h.tx.has];exact decide_eq_true ((h.rtx.has f.id).1 (List.mem_map.2 ⟨f,hf,rfl⟩))
theorem IsI.ids_eq (h:IsI ns x r P) {ys:List ID} (hp:ys.Perm (x.C.map (·.1))) (hs:SortedI ys):ys=r.ids:=
 sorted_uniq (strict_of_sorted hs (hp.nodup_iff.2 h.cl.keys)) (ids_strict h.rtx) (fun i=>(hp.mem_iff).trans (h.key i))
theorem IsI.wait (h:IsI ns x r P):x.wait=(pnN r.E:Int):=by
 rw [h.cl.waits]
 have e:(pends x.C).length=((r.E.filter (·.pn)).map (·.id)).length:=by
  have n1:(pends x.C).Nodup:=pends_nodup h.cl.keys;have n2:((r.E.filter (·.pn)).map (·.id)).Nodup:=(ids_nodup h.rtx).sublist (List.filter_sublist.map _)
  have hm:∀ i,i∈pends x.C↔i∈(r.E.filter (·.pn)).map (·.id):=fun i=>by
   constructor
   · intro hi;obtain ⟨d,bs,hm⟩:=pends_mem hi;have h1:=(h.key i).1 (List.mem_map.2 ⟨_,hm,rfl⟩);obtain ⟨f,hf,rfl⟩:=List.mem_map.1 h1;exact List.mem_map.2 ⟨f,List.mem_filter.2 ⟨hf,(h.pn f hf).2 hi⟩,rfl⟩
   intro hi;obtain ⟨f,hf,rfl⟩:=List.mem_map.1 hi;obtain ⟨h1,h2⟩:=List.mem_filter.1 hf;exact (h.pn f h1).1 h2
  have a1:=len_le_sub _ _ n1 (fun a ha=>(hm a).1 ha);have a2:=len_le_sub _ _ n2 (fun a ha=>(hm a).2 ha);omega
 rw [e,zB];rfl
theorem sum_permI {a b:List Int} (h:a.Perm b):a.sum=b.sum:=by
 induction h with
 | nil=>rfl
 | cons c _ ih=>rw [zD,zD,ih]
 | swap c d l=>simp only [zD];omega
 | trans _ _ ih1 ih2=>exact ih1.trans ih2
theorem IsI.bytes (h:IsI ns x r P) {ys:List ID} (he:ys=r.ids) (hp:ys.Perm (x.C.map (·.1))):x.bytes=(bsN r.E:Int):=by
 rw [h.cl.size];unfold sizeC;rw [<- sum_permI (hp.map (·.2)),he]
 have:∀ E:List RE,(∀ e∈E,e.id.2=(e.bs.length:Int))->((E.map (·.id)).map (·.2)).sum=(bsN E:Int):=by
  intro E;induction E with
  | nil=>intro _;rfl
  | cons e E ih=>
   intro hE;have h1:=ih (fun x hx=>hE x (by simp [hx]));have h2:=hE e (by simp);have h3:bsN (e::E)=e.bs.length+bsN E:=by simp [bsN]
   rw [h3];simp only [List.map_cons,zD] at h1 |-; rw [h1,h2];omega
 exact this r.E (fun e he=>by
  have:=(h.rtx.val e he).1;rw [<- this];rfl)
end
section
variable {ns:List ByteArray} {b:Nat} {w0 w:World} {x:SR} {r:R3} {P:List (List UInt8)} {l:List Ob}
theorem is40 (h:SW b w0 (x.obs l) w) (hi:IsI ns x r P) (hm:r3Ob r∈l):Calls Tryz.prog 40 #[vPtr x.ps,.agg #[.slice r.A r.E.length r.c,.slice r.B r.E.length r.k]] w (fun e w'=>e= .returned (.bool true)/\SW b w0 (x.obs l) w'):=by
 have S0:Hid (SW b w0 (x.obs (cellOb w.heap.size 54 #[.slice r.A r.E.length r.c,.slice r.B r.E.length r.k]::l)) (w.alloc (.cells #[.slice r.A r.E.length r.c,.slice r.B r.E.length r.k] 54))):=(h.newCell 54 _).behind;have IS:=hid hi;have HM:=hid hm;have hfew:x.C.length<=49:=by have:=hi.tx.few hi.cl.keys;omega
 have hrn:r.E.length<=100000:=((h.1.holds (r3Ob r) (by simp [SR.obs,hm]):R3Ok w r)).n;have HCK:Hid (∀ w',SW b w0 (x.obs (cellOb w.heap.size 54 #[.slice r.A r.E.length r.c,.slice r.B r.E.length r.k]::l)) w'->w'.cell? ⟨w.heap.size,0,none⟩=some (.slice r.A r.E.length r.c)/\w'.cell? ⟨w.heap.size,1,none⟩=some (.slice r.B r.E.length r.k)):=fun w' h=>⟨(h.cell 4 rfl).cell 0,(h.cell 4 rfl).cell 1⟩;have HCN:=hid (fun (W:World) (hW:R3Ok W r)=>rCount_any hW (fun e he=>by have:=(hi.rtx.val e he).2.hi;omega));clear h hi hm;go_enter Tryz.func40,Tryz.ntmps40;go_upto_region 1 with fail
 generalize w.alloc _=W1 at S0 |-; obtain ⟨c0,c1⟩:=HCK.out _ S0.out;have HC1:=hid (HCN.out W1 (S0.out.1.holds (r3Ob r) (by simp [SR.obs,HM.out])));go_wp2_with (go_at_call 99;(with_reducible refine HC1.out.mono ?_);refine halt_ ?_)
 rintro e w2 ⟨rfl,hb2⟩;have S2:=S0.out.on hb2;clear hb2 HC1 HCN S0 c0 c1;go_upto_region 2 with fail
 have S2:=S2.drew;refine wp_region_tree 23 (.take 0 (.take 2 (.one 1 (.one 3 (.one 4 (.take 5 (.take 6 (.take 7 (.take 9 (.one 8 (.take 10 (.take 11 (.take 12 (.take 13 (.take 15 (.one 14 (.take 16 (.take 17 (.take 18 (.take 19 (.one 20 (.take 21 (.take 22 .nil))))))))))))))))))))))) (fun w'=>w'.cell? ⟨w.heap.size,0,none⟩=some (.slice r.A r.E.length r.c)/\w'.cell? ⟨w.heap.size,1,none⟩=some (.slice r.B r.E.length r.k)) (by kernel_rfl) (fun _ _ d _ _ h=>by cases d<;>exact h) (by kernel_rfl) (HCK.out _ S2) ?_;refine wpTr_takeL rfl ?_ (Or.inl ⟨by rfl,?_⟩) ?_;rotate_left
 · (intro w' hSw;obtain ⟨h1,h2⟩:=hSw;go_simp;try with_reducible rfl)
 try simp only [Act.put,zE,List.set]
 refine wpTr_takeL rfl ?_ (Or.inl ⟨by rfl,?_⟩) ?_;rotate_left
 · (intro w' hSw;obtain ⟨h1,h2⟩:=hSw;go_simp;try with_reducible rfl)
 try simp only [Act.put,zE,List.set]
 refine wpTr_one ?_;refine wpTr_runL rfl (fun K' hK'=>?_);go_simp;go_at_call 28
 refine (IDs_S (x:=x) S2 hfew).mono ?_;rintro e wc1 ⟨A1,k1,ys,rfl,hp1,hs1,sc1⟩;have SC1:SW b w0 (riOb A1 ys::x.obs (cellOb w.heap.size 54 #[.slice r.A r.E.length r.c,.slice r.B r.E.length r.k]::l)) wc1:=sc1;have hpy:=hid hp1;have hsy:=hid hs1;clear sc1 hp1 hs1;go_wp2_with fail
 refine hK'.out _ _ (HCK.out _ (SC1.tail)) ?_;clear hK' K';try simp only [Act.put,zE,List.set]
 refine wpTr_one ?_;refine wpTr_runL rfl (fun K' hK'=>?_);go_simp;go_at_call 70
 refine (rIDs_any SC1 (by simp [SR.obs,HM.out])).mono ?_;rintro e wc2 ⟨A2,k2,rfl,sc2⟩;have SC2:SW b w0 (riOb A2 r.ids::riOb A1 ys::x.obs (cellOb w.heap.size 54 #[.slice r.A r.E.length r.c,.slice r.B r.E.length r.k]::l)) wc2:=sc2;clear sc2;have hyr:=hid (IS.out.ids_eq hpy.out hsy.out);have hdy:Hid (decide (ys=r.ids)=true):=decide_eq_true hyr.out;have hyl:ys.length<=49:=by have h1:=hpy.out.length_eq;rw [zB] at h1;omega
 have hrl:r.ids.length<=49:=by rw [<- hyr.out];exact hyl
 go_wp2_with fail
 refine hK'.out _ _ (HCK.out _ (SC2.tail.tail)) ?_;clear hK' K';try simp only [Act.put,zE,List.set]
 refine wpTr_one ?_;refine wpTr_runL rfl (fun K' hK'=>?_);have hS:=Same_S (xs:=ys) (ys:=r.ids) SC2 (List.mem_cons_of_mem _ (List.mem_cons_self ..)) (List.mem_cons_self ..) (by omega) (by omega) k1 k2 hdy.out;rw [show r.ids.length=r.E.length from zB _] at hS;go_simp;go_at_call 64
 refine hS.mono ?_;rintro e wc3 ⟨rfl,sc3⟩;have SC3:=sc3;clear sc3 hS;go_wp2_with fail
 refine hK'.out _ _ (HCK.out _ (SC3.tail.tail)) ?_;clear hK' K';try simp only [Act.put,zE,List.set]
 iterate 4
  refine wpTr_takeL rfl ?_ (Or.inl ⟨by rfl,?_⟩) ?_;rotate_left
  · (intro w' hSw;obtain ⟨h1,h2⟩:=hSw;go_simp;try with_reducible rfl)
  try simp only [Act.put,zE,List.set]
 refine wpTr_one ?_;refine wpTr_runL rfl (fun K' hK'=>?_);go_simp;go_at_call 29
 refine (Pending_L (x:=x) SC3.tail.tail _ IS.out.wait).mono ?_;rintro e wc4 ⟨rfl,rfl⟩;go_wp2_with fail
 refine hK'.out _ _ (HCK.out _ (SC3.tail.tail)) ?_;clear hK' K';try simp only [Act.put,zE,List.set]
 iterate 5
  refine wpTr_takeL rfl ?_ (Or.inl ⟨by rfl,?_⟩) ?_;rotate_left
  · (intro w' hSw;obtain ⟨h1,h2⟩:=hSw;go_simp;try with_reducible rfl)
  try simp only [Act.put,zE,List.set]
 refine wpTr_one ?_;refine wpTr_runL rfl (fun K' hK'=>?_);go_simp;go_at_call 26
 refine (Bytes_L (x:=x) SC3.tail.tail _ (IS.out.bytes hyr.out hpy.out)).mono ?_;rintro e wc5 ⟨rfl,rfl⟩;go_wp2_with fail
 refine hK'.out _ _ (HCK.out _ (SC3.tail.tail)) ?_;clear hK' K';try simp only [Act.put,zE,List.set]
 iterate 4
  refine wpTr_takeL rfl ?_ (Or.inl ⟨by rfl,?_⟩) ?_;rotate_left
  · (intro w' hSw;obtain ⟨h1,h2⟩:=hSw;go_simp;try with_reducible rfl)
  try simp only [Act.put,zE,List.set]
 refine wpTr_one ?_;refine wpTr_runL rfl (fun K' hK'=>?_);go_simp;go_at_call 48
 refine (Damaged_ok (x:=x) SC3.tail.tail IS.out.cl).mono ?_;rintro e wc6 ⟨rfl,sc6⟩;have SC6:=sc6;clear sc6;go_wp2_with fail
 refine hK'.out _ _ (HCK.out _ (SC6)) ?_;clear hK' K';try simp only [Act.put,zE,List.set]
 refine wpTr_takeL rfl ?_ (Or.inl ⟨by rfl,?_⟩) ?_;rotate_left
 · (intro w' hSw;obtain ⟨h1,h2⟩:=hSw;go_simp;try with_reducible rfl)
 try simp only [Act.put,zE,List.set]
 refine wpTr_takeL rfl ?_ (Or.inl ⟨by rfl,?_⟩) ?_;rotate_left
 · (intro w' hSw;obtain ⟨h1,h2⟩:=hSw;go_simp;try with_reducible rfl)
 try simp only [Act.put,zE,List.set]
 refine wpTr_nil ?_;simp only [List.drop_succ_cons,List.drop_zero];have SZ:=hid SC6;go_wp2_with fail
 go_loopw [7] (fun s7 wr=>∃ (k:Nat),s7= .int .i64 (k:Int)/\k<=r.E.length/\SW b w0 (x.obs (cellOb w.heap.size 54 #[.slice r.A r.E.length r.c,.slice r.B r.E.length r.k]::l)) wr) (fun s7 _=>r.E.length-(intOf s7).toNat)
 case atStart=>exact ⟨0,rfl,Nat.zero_le _,SZ.out⟩
 obtain ⟨k,rfl,hk,hs⟩:=hrel;have S3:=hid hs;clear hs SZ S2;have c0:=(S3.out.cell 4 rfl).cell 0;by_cases hlt:k<r.E.length
 · obtain ⟨f,hf⟩:∃ f,r.E.getD k re0=f:=⟨_,rfl⟩
   have hfm:f∈r.E:=by
    rw [<- hf,zA,zC hlt];exact List.getElem_mem hlt
   have HRK:=hid (fun (W:World) (hW:SW b w0 (x.obs (cellOb w.heap.size 54 #[.slice r.A r.E.length r.c,.slice r.B r.E.length r.k]::l)) W)=>(hW.1.holds (r3Ob r) (by simp [SR.obs,HM.out]):R3Ok W r));obtain ⟨G,hA,hG,a0,a1,a2⟩:=(HRK.out _ S3.out).chunk hlt hf;have hok:=rE_ok IS.out.rtx hfm;have HV:=hid (IS.out.val hfm);have HOK:=hid hok;have HFM:=hid hfm;have HLT:=hid hlt;have HHF:=hid hf;have HA:=hid hA;have HGT:=hid (Get_L S3.out IS.out.cl f.id hok f.bs HV.out);rw [hA] at c0;clear hf hfm hok hA;go_wp2_with (go_at_call 30;(with_reducible refine HGT.out.mono ?_);refine halt_ ?_)
   rintro e w4 ⟨d,rfl,s4⟩;have S4:Hid (SW b w0 (x.obs (cellOb w.heap.size 54 #[.slice r.A r.E.length r.c,.slice r.B r.E.length r.k]::l)) w4):=s4.sub (by simp [SR.obs]);have R1:RB w4 d f.bs:=s4.get 4 (o:=bufOb d f.bs) rfl;have R2:RB w4 f.d f.bs:=(HRK.out _ S4.out).bytes f HFM.out;have v1:=fun g:Ext w4=>conv_rb (R1.on (wext_below g));have v2:=fun g:Ext w4=>conv_rb (R2.on (wext_below g));obtain ⟨G',hA',hG4,a0,a1,a2⟩:=(HRK.out _ S4.out).chunk hlt HHF.out;rw [HA.out] at hA';injection hA' with hA';injection hA' with hA';subst hA';have c0:=(S4.out.cell 4 rfl).cell 0;have hgl:w.heap.size<w4.heap.size:=(S4.out.cell 4 rfl).lt;rw [HA.out] at c0
   have HHS:Hid (∀ g:Ext w4,Calls Tryz.prog 46 #[vPtr x.ps,.agg #[.int .u64 f.id.1,.int .i64 f.id.2]] (wext w4 g) (fun e w'=>e= .returned (.bool true)/\Below (wext w4 g).heap.size (wext w4 g) w')):=fun g=>by
    have h1:=Has_any (S4.out.on (wext_below g)).1 f.id HOK.out;rw [IS.out.there HFM.out] at h1;exact h1
   have FIN:Hid (∀ w10,Below w4.heap.size w4 w10->SW b w0 (x.obs (cellOb w.heap.size 54 #[.slice r.A r.E.length r.c,.slice r.B r.E.length r.k]::l)) w10):=fun w10 hb=>S4.out.on hb;clear s4 HGT S3 R1 R2 HRK;go_upto_region 8 with fail
   refine wp_region_ext (by kernel_rfl) (by kernel_rfl) ?_;repeat (go_big_quiet_step ((go_at_call 46;exact ext_call (HHS.out _))))
   refine wpQuiet_nil ?_;intro w10 hb;have S10:=hid (FIN.out w10 hb);clear hb HHS FIN S4 v1 v2 c0 a0 a1 a2 hgl hG4;go_wp2_with fail
   go_roundw
   case rel=>exact ⟨k+1,by go_num,HLT.out,S10.out⟩
   have:=HLT.out;simp only [intOf];omega
 obtain rfl:k=r.E.length:=by omega
 go_wp2_with fail
 go_ret;exact ⟨rfl,SW.sub S3.out (by simp [SR.obs])⟩
end
end
section
open Go.RowKit Go.MapKept Go.ChangeMaps Go.Shelf Go.Sort
attribute [local go_sem] wext_cell
theorem take_snocD {α:Type} {l:List α} {k:Nat} (d:α) (hk:k<l.length) {e:α} (he:l.getD k d=e):l.take (k+1)=l.take k++[e]:=by
 rw [List.take_succ_eq_append_getElem hk, <- he,zA,zC hk];rfl
end
section
open Go.RowKit Go.MapKept Go.ChangeMaps Go.Shelf Go.Sort

def inOb (A:Option Addr) (L:List Int):Ob where
 own:=fun _=>False
 rd:=fun i=>0<L.length/\∃ o,A=some ⟨i,o,none⟩
 holds:=fun w=>RdT w w.heap.size A L/\L.length<=9223372036854775807
 stable:=fun w w' h hs hk=>by
  refine ⟨fun hp=>?_,h.2⟩;obtain ⟨b,o,e,hlt,hc⟩:=h.1 hp;have h2:=hk b (.inr ⟨hp,o,e⟩);refine ⟨b,o,e,Nat.lt_of_lt_of_le hlt hs.2.2.2,fun j hj=>?_⟩;rw [<- hc j hj];simp [World.cell?, h2]
section
variable {b:Nat} {w0 w w':World} {l:List Ob}
theorem SW.newTape {A:Option Addr} {L:List Int} (h:SW b w0 l w) (hm:inOb A L∈l) (c:Nat) {H:Nat} (hH:w.heap.size=H):SW b w0 (tpOb H A c L 0::l) (w.alloc (.cells #[.slice A L.length c,.int .i64 0] 50)):=by
 subst hH;have hh:RdT w w.heap.size A L/\L.length<=9223372036854775807:=h.1.holds _ hm;have hb:Below w.heap.size w (w.alloc (.cells #[.slice A L.length c,.int .i64 0] 50)):=(Below.refl _ _).alloc (Nat.le_refl _) _;have:=h.1.add (o':=tpOb w.heap.size A c L 0) hb ⟨IsB.new _ _ _,fun hp=>?_,hh.2⟩ (fun i hi=>?_) (fun i hi=>?_) (fun i hi hlt=>h.noOwn hm (fun _ h=>h) hi)
 · exact ⟨this.1,h.2.trans this.2⟩
 · obtain ⟨q,o,e,hlt,hc⟩:=hh.1 hp;exact ⟨q,o,e,by simp;omega,by omega,fun j hj=>(hb.cell hlt).trans (hc j hj)⟩
 · have hi:i=w.heap.size:=hi;rw [hi];exact ⟨Nat.le_refl _,by simp⟩
 obtain ⟨hp,o,e⟩:=hi;obtain ⟨q,o',e',hlt,_⟩:=hh.1 hp;rw [e] at e';injection e' with e';injection e' with e' _;rw [e'];exact Nat.lt_of_lt_of_le hlt (by simp)
abbrev r30:R3:=⟨none,0,none,0,[]⟩
theorem SW.newR3 (h:SW b w0 l w):SW b w0 (r3Ob r30::l) w:=SW.fuse (pre:=[]) h ⟨RowV.nil,RowV.nil,Nat.le_refl _,Nat.le_refl _,by simp,fun e he=>by cases he⟩ (fun _ h=>h) (fun i hi=>by
 rcases hi with ⟨h,_⟩ | ⟨e,he,_⟩
 · simp at h
 cases he)
theorem RTX.empty:RTX r30 []:=⟨List.Pairwise.nil,fun i=>by simp [R3.ids],fun e he=>by cases he⟩
end
theorem SW.startIn {w:World} {A:Option Addr} {L:List Int} (hr:RdT w w.heap.size A L) (hl:L.length<=9223372036854775807):SW w.heap.size w [inOb A L] w:=
 SW.start (o:=inOb A L) ⟨hr,hl⟩ (fun _ h=>h) (fun i hi=>by
  obtain ⟨hp,o,e⟩:=hi;obtain ⟨q,o',e',hlt,_⟩:=hr hp;rw [e] at e';injection e' with e';injection e' with e' _;rw [e'];exact hlt)
section
variable {ns:List ByteArray} {b:Nat} {w0 w w':World} {l:List Ob} {x:SR}
theorem TX.gone {P:List (List UInt8)} (h:TX x P) {ids:List ID} {x':SR} (hg:Gone x ids x'):TX x' (P.filter fun t=> !decide (fpOf t∈ids)):=by
 refine ⟨fun i=>?_,fun t ht=>?_,fun t ht=>h.text t (List.mem_filter.1 ht).1⟩
 · rw [hg.has i,h.has i];by_cases hi:i∈ids
   · simp only [hi,decide_true,Bool.not_true,Bool.false_and];symm
     rw [decide_eq_false_iff_not];intro hm;obtain ⟨t,ht,e⟩:=List.mem_map.1 hm;have:=(List.mem_filter.1 ht).2;rw [e] at this;simp [hi] at this
   simp only [hi,decide_false,Bool.not_false,Bool.true_and];congr 1
   rw [eq_iff_iff];constructor
   · intro hm;obtain ⟨t,ht,e⟩:=List.mem_map.1 hm;exact List.mem_map.2 ⟨t,List.mem_filter.2 ⟨ht,by rw [e];simp [hi]⟩,e⟩
   intro hm;obtain ⟨t,ht,e⟩:=List.mem_map.1 hm;exact List.mem_map.2 ⟨t,(List.mem_filter.1 ht).1,e⟩
 obtain ⟨h1,h2⟩:=List.mem_filter.1 ht;rw [hg.val,if_neg (by simpa using h2)];exact h.val t h1
end
end
section
open Go.RowKit Go.MapKept Go.ChangeMaps Go.Shelf Go.Sort
attribute [local go_sem] wext_cell
end
section
open Go.RowKit Go.MapKept Go.ChangeMaps Go.Shelf Go.Sort
attribute [local go_sem] wext_cell
end
section
open Go.RowKit Go.MapKept Go.ChangeMaps Go.Shelf Go.Sort
attribute [local go_sem] wext_cell
end
end Go.Proofs.YteabgcollokgjaaGreatDoor
