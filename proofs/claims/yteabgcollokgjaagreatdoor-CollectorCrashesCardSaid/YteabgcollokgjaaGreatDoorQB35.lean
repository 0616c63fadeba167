/- Q -/
import Derived.Test.YteabgcollokgjaaGreatDoorQB34
set_option linter.unusedSimpArgs false
set_option linter.unusedVariables false
set_option maxRecDepth 100000
set_option maxHeartbeats 32000000
open Go.Lib (hid)
namespace Go.Proofs.YteabgcollokgjaaGreatDoor
section
open Go.RowKit Go.MapKept Go.ChangeMaps Go.Shelf Go.Sort
section
variable {ns:List ByteArray} {b:Nat} {w0 w w':World} {l:List Ob} {x:SR} {c:CR}
theorem New_S (h:SW b w0 l w):Calls Tryz.prog 21 #[] w (fun e w'=>∃ r,e= .returned (vPtr (w.heap.size+2))/\SW b w0 (devOb (w.heap.size+2) r St.new::l) w'):=by
 refine (New_any w).mono ?_;rintro e w' ⟨rfl,hd,hb⟩;refine ⟨_,rfl,h.addN hb hd (fun i hi=>⟨?_,hd.own_lt hi⟩) (fun i hi=>⟨?_,hd.reads_lt hi⟩)⟩
 · rcases hi with hi | ⟨q,hq,rfl⟩
   · rcases hi with rfl | rfl | rfl | hi
     · omega
     · exact Nat.le_refl _
     · exact Nat.le_succ _
     cases hi
   cases hq
 obtain ⟨d,hd,_⟩:=hi;rcases hd with ⟨_,he,_⟩ | ⟨_,he,_⟩ | ⟨_,he,_⟩<;>cases he
theorem IDs_S (h:SW b w0 (x.obs l) w) (hn:x.C.length<=49):Calls Tryz.prog 28 #[vPtr x.ps] w (fun e w'=>∃ A c ys,e= .returned (.slice A ys.length c)/\ys.Perm (x.C.map (·.1))/\SortedI ys/\SW b w0 (riOb A ys::x.obs l) w'):=by
 refine (IDs_anyC h.1 hn).mono ?_;rintro e w' ⟨A,c,ys,rfl,hp,hs,hr,hb,hc⟩;have e:x.C.filter (fun c=>(fun _=>true) c.2)=x.C:=List.filter_eq_self.2 (fun _ _=>rfl);rw [e] at hp;refine ⟨A,c,ys,rfl,hp,hs,h.addN hb ⟨hr.1,fun ad e=>?_⟩ (fun i hi=>hi.elim) (fun i hi=>?_)⟩
 · obtain ⟨g,e1,h1,h2,h3⟩:=hr.2 ad e;exact ⟨g,e1,h1,h3⟩
 obtain ⟨g,e1,h1,h2,h3⟩:=hr.2 _ hi;injection e1 with e1;rw [e1];exact ⟨h2,h3⟩
theorem HasC_of (hps:c.ps=x.ps) (i:ID) (hi:okID i) {v:Bool} (hv:(asc x.C i).isSome=v):HasC b w0 c (x.obs l) i v:=fun w' h=>by
 rw [hps, <- hv];exact Has_any h.1.tail i hi
theorem Same_S {A B:Option Addr} {xs ys:List ID} (h:SW b w0 l w) (hA:riOb A xs∈l) (hB:riOb B ys∈l) (n1:xs.length<=100000) (n2:ys.length<=100000) (c d:Nat) {v:Bool} (hv:decide (xs=ys)=v):
 Calls Tryz.prog 64 #[.slice A xs.length c,.slice B ys.length d] w (fun e w'=>e= .returned (.bool v)/\SW b w0 l w'):=by
 refine (SameIDs_any w.heap.size w.heap.size xs ys A B c d w (rdID_of (h.1.holds _ hA)) (rdID_of (h.1.holds _ hB)) (by omega) (by omega)).mono ?_;rintro e w' ⟨rfl,hb⟩;rw [hv];exact ⟨rfl,h.on hb⟩
end
abbrev bA:List UInt8:=[97]
abbrev bB:List UInt8:=[98]
def iA:ID:=fpOf bA
def iB:ID:=fpOf bB
theorem iAB_ne2:iA≠iB:=by decide+kernel
theorem iA_ok:okID iA:=okID_fp bA (by decide)
theorem iB_ok:okID iB:=okID_fp bB (by decide)
theorem known61_any (w:World):Calls Tryz.prog 61 #[] w (fun e w'=>e= .returned (.bool true)/\Below w.heap.size w w'):=by
 have kc:=fun (w:World) (C:Array Value) (n c:Nat)=>Lib.run_convert_bytes_const (P:=Tryz.prog) w 34 5 C n c Tryz.underlying34 Tryz.underlying5
 have kc1:=fun (w:World) (o:Obj) (C:Array Value) (n c:Nat)=>(show Sem.run Tryz.prog (convert 34 34 (.slice (some ⟨w.heap.size+1,0,none⟩) n c)) ((w.alloc o).alloc (.cells C 5))= .ok (.slice (some ⟨w.heap.size+1,0,none⟩) n c) ((w.alloc o).alloc (.cells C 5 (C.size,C.size+1))) from by
  have:=kc (w.alloc o) C n c;simpa using this)
 go_enter Tryz.func61,Tryz.ntmps61;go_wp2_with fail
 refine (New_S (SW.refl (Sep.nil w (Nat.le_refl _)))).mono ?_;rintro e w1 ⟨r,rfl,hs⟩;have S1:=hid hs;clear hs;go_wp2_with fail
 refine (Open_L (ns:=[fileN nmS]) S1.out nmS nmS_ok rfl rfl (fun _=>rfl) (by decide) (by simp) (by simp)).mono ?_;rintro e w2 ⟨x0,rfl,hs,hc,hC,hF,hnm,_,hw,hby⟩;have S2:=hid hs;have C2:=hid hc;have HC:=hid hC;clear hs hc hC hF hnm hw hby S1;go_wp2_with fail
 have S2b:Hid (SW w.heap.size w (x0.obs []) (w2.alloc (Obj.cells #[Value.int .u8 97] 5 (1,2)))):=S2.out.alloc _;refine (PutN_L S2b.out C2.out _ 1 bA (rs_const w2 _ rfl bA (1,2)) (by decide) (by decide) (by rw [HC.out];rfl) (by rw [HC.out];decide)).mono ?_;rintro e w3 ⟨rfl,d,hs,hc⟩;have S3:=hid (hs.newCell 31 #[.int .u64 iA.1,.int .i64 iA.2]).behind;have C3:=hid hc;clear hs hc S2b S2 C2;rw [show fpOf bA=iA from rfl] at *; obtain ⟨x1,HX⟩:∃ x1,Hid (putS x0 iA d bA=x1):=⟨_,rfl⟩;rw [HX.out] at S3 C3;have hps:x0.ps=x1.ps:=by rw [<- HX.out];rfl
 have HC1:Hid (x1.C=[(iA,.pend d bA)]):=by rw [Hid, <- HX.out];simp [putS,HC.out,setL]
 rw [hps];clear hps;go_wp2_with fail
 have S3b:=hid (S3.out.alloc (Obj.cells #[Value.int .u8 98] 5 (1,2)))
 refine (PutN_L S3b.out C3.out _ 1 bB (rs_const (w3.alloc (Obj.cells #[.int .u64 iA.1,.int .i64 iA.2] 31)) _ (by simp) bB (1,2)) (by decide) (by decide) (by
  rw [HC1.out];show (if iA=iB then _ else _)=_;rw [if_neg iAB_ne2];rfl) (by rw [HC1.out];simp)).mono ?_
 rintro e w4 ⟨rfl,d2,hs,hc⟩;rw [show fpOf bB=iB from rfl] at *; obtain ⟨x2,HX2⟩:∃ x2,Hid (putS x1 iB d2 bB=x2):=⟨_,rfl⟩;rw [HX2.out] at hs hc;have S4:=hid (hs.newCell 31 #[.int .u64 iB.1,.int .i64 iB.2]).behind;have C4:=hid hc;have hps:x1.ps=x2.ps:=by rw [<- HX2.out];rfl
 have HC2:Hid (x2.C=[(iA,.pend d bA),(iB,.pend d2 bB)]):=by rw [Hid, <- HX2.out];simp [putS,HC1.out,setL,iAB_ne2]
 rw [hps];clear hs hc hps S3b S3 C3;have a0:=(S4.out.cell 5 rfl).cell 0;have a1:=(S4.out.cell 5 rfl).cell 1;go_upto_region 6 with fail
 obtain ⟨W5,HW5⟩:∃ W5,Hid (w4.alloc (.cells #[.int .u64 iB.1,.int .i64 iB.2] 31)=W5):=⟨_,rfl⟩;obtain ⟨gA,HGA⟩:∃ gA,Hid (w3.heap.size=gA):=⟨_,rfl⟩;obtain ⟨gB,HGB⟩:∃ gB,Hid (w4.heap.size=gB):=⟨_,rfl⟩;rw [HW5.out,HGA.out,HGB.out] at S4;rw [HW5.out,HGA.out] at a0 a1;rw [HW5.out,HGA.out,HGB.out];have S5:=hid (S4.out.newIds1 iA).behind;have HNC:=hid (New_c S5.out C4.out (some ⟨W5.heap.size,0,none⟩) 1 [iA] (by simp) (fun i hi=>by rw [List.mem_singleton.1 hi];exact iA_ok) (by simp) (by rw [HC2.out];simp));rw [show ([iA]:List ID).length=1 from rfl] at HNC;clear HW5 HGA HGB S4;go_wp2_with (go_at_call 109;(with_reducible refine HNC.out.mono ?_);refine halt_ ?_)
 rintro e w6 ⟨co,ys,rfl,s6,hps,hse,hp,hso,hcd⟩;have HPS:=hid hps
 have HCD:Hid (co.cand=[iB]):=by
  rw [Hid,hcd];have h1:=hp.filter (fun i=>(asc (setI [iA]) i).isNone)
  have h2:(x2.C.map (·.1)).filter (fun i=>(asc (setI [iA]) i).isNone)=[iB]:=by
   rw [HC2.out];have e1:asc (setI [iA]) iA=some ():=by simp [setI,setL,asc]
   have e2:asc (setI [iA]) iB=none:=by simp [setI,setL,asc,iAB_ne2]
   simp [e1,e2]
  rw [h2] at h1;exact List.perm_singleton.1 h1
 have K0:=hid (SesK.start hse);have HSE:=hid hse;have S6:=hid s6;have HL:=hid (Left_any s6);rw [HCD.out] at HL;clear s6 hps hse hp hso hcd HNC S5 a0 a1;have HB:=hid (fun (W:World) (s:SW w.heap.size w (coOb co::x2.obs [riOb (some ⟨W5.heap.size,0,none⟩) [iA],cellOb gB 31 #[.int .u64 iB.1,.int .i64 iB.2],cellOb gA 31 #[.int .u64 iA.1,.int .i64 iA.2]]) W)=>Begin_new s 1 (by omega) 0 (K0.out.free (by omega)) (K0.out.no (fun j hj=>by omega)));rw [show (([iB]:List ID).length:Int)=1 from rfl] at HL;go_wp2_with (first | (go_at_call 63;(with_reducible refine HL.out.mono ?_);refine halt_ ?_) | (go_at_call 71;refine halt_ ?_))
 rintro e w7 ⟨rfl,s7⟩;have HB:=hid (HB.out _ s7);clear HL S6 s7;go_wp2_with (go_at_call 71;(with_reducible refine HB.out.mono ?_);refine halt_ ?_)
 rintro e w8 ⟨rfl,m,s8⟩;have hcl:co.se.length=16:=K0.out.len;have hb0:=fun j=>begun_at (c:=co) (f:=0) (m:=m) (N:=1) (by omega) j;obtain ⟨c1,HC1e⟩:∃ c1,Hid (co.begun 0 1 m=c1):=⟨_,rfl⟩;have HCP:Hid (c1.cp=co.cp):=by rw [<- HC1e.out];rfl
 have HCD1:Hid (c1.cand=[iB]):=by rw [<- HC1e.out];exact HCD.out
 have HPS1:Hid (c1.ps=x2.ps):=by rw [<- HC1e.out];exact HPS.out
 have HN1:Hid (fiO (pNum 1) c1.se=some 0):=by
  rw [<- HC1e.out];refine fiO_some (by rw [begun_len];omega) ?_ (fun j hj=>by omega);rw [hb0];rfl
 have HM1:Hid ((c1.ss 0).hm=some m):=by
  rw [<- HC1e.out];show ((co.begun 0 1 m).se.getD 0 ses0).hm=some m;rw [hb0];rfl
 have HLEN:Hid (c1.se.length=16):=by rw [<- HC1e.out,begun_len];exact hcl
 have HO1:Hid (∀ j,j≠0->c1.ss j=ses0):=fun j hj=>by
  rw [<- HC1e.out];show (co.begun 0 1 m).se.getD j ses0=ses0;rw [hb0,if_neg hj,HSE.out,List.getD_eq_getElem?_getD,List.getElem?_replicate];split<;>rfl
 rw [HC1e.out] at s8;have S8:=hid s8;have b0:=(s8.cell 6 rfl).cell 0;have b1:=(s8.cell 6 rfl).cell 1;have hio:=iB_ok;have HT:=hid (Touch_held s8 1 0 HN1.out m HM1.out iB hio (HasC_of HPS1.out iB hio (v:=true) (by rw [HC2.out];simp [asc,iAB_ne2])));rw [HCP.out] at HT;clear s8 hb0 HB HC1e hcl;go_wp2_with (go_at_call 73;(with_reducible refine HT.out.mono ?_);refine halt_ ?_)
 rintro e w9 ⟨rfl,s9⟩;have hf1:0<c1.se.length:=by rw [HLEN.out];omega
 have HH2:Hid (heldC (c1.hold 0 iB) iB=true):=by rw [Hid,hold_held hf1];simp
 have ha2:=fun j=>hold_at (c:=c1) (f:=0) (i:=iB) hf1 j;obtain ⟨c2,HC2e⟩:∃ c2,Hid (c1.hold 0 iB=c2):=⟨_,rfl⟩;have HCP2:Hid (c2.cp=co.cp):=by rw [<- HC2e.out];exact HCP.out
 have HCD2:Hid (c2.cand=[iB]):=by rw [<- HC2e.out];exact HCD1.out
 have HPS2:Hid (c2.ps=x2.ps):=by rw [<- HC2e.out];exact HPS1.out
 have HLEN2:Hid (c2.se.length=16):=by
  have:(c1.hold 0 iB).se.length=c1.se.length:=by simp [CR.hold,CR.put]
  rw [<- HC2e.out,Hid,this];exact HLEN.out
 have HO2:Hid (∀ j,j≠0->c2.ss j=ses0):=fun j hj=>by
  rw [<- HC2e.out];exact (ha2 j).trans ((if_neg hj).trans (HO1.out j hj))
 have h20:(c1.hold 0 iB).se.getD 0 ses0={ c1.ss 0 with H:=setL (c1.ss 0).H iB () }:=(ha2 0).trans (if_pos rfl)
 have HN2:Hid (fiO (pNum 1) c2.se=some 0):=by
  have hp:=(fiO_lt HN1.out).2;rw [<- HC2e.out];refine fiO_some (by have:=HLEN2.out;rw [<- HC2e.out] at this;omega) ?_ (fun j hj=>by omega);rw [h20];exact hp
 have s9':SW w.heap.size w (coOb c2::x2.obs [riOb (some ⟨W5.heap.size,0,none⟩) [iA],cellOb gB 31 #[.int .u64 iB.1,.int .i64 iB.2],cellOb gA 31 #[.int .u64 iA.1,.int .i64 iA.2]]) w9:=by
  rw [<- HC2e.out];exact s9
 rw [HC2e.out] at HH2;have HOKS:Hid (∀ i∈[iB],okID i):=fun i hi=>by rw [List.mem_singleton.1 hi];exact iB_ok
 have HST:=hid (Step_of s9' HPS2.out C4.out 9 (by rw [HCD2.out];exact HOKS.out) (by rw [HCD2.out];simp) [] (by
  show (c2.cand.filter fun i=> !heldC c2 i).take _=[];rw [HCD2.out];simp [HH2.out]))
 rw [HCP2.out] at HST;clear s9 s9' HC2e h20 ha2 hf1 HT S8 b0 b1;go_wp2_with (go_at_call 62;(with_reducible refine HST.out.mono ?_);refine halt_ ?_)
 rintro e w10 ⟨A1,cap1,x3,rfl,s10,hc3,hg3⟩;rw [show (([]:List ID).length)=0 from rfl];have C10:=hid hc3;have G10:=hid hg3;obtain ⟨c3,HC3e⟩:∃ c3:CR,Hid ({ c2 with cand:=lessL (setI []) c2.cand }=c3):=⟨_,rfl⟩;have HCP3:Hid (c3.cp=co.cp):=by rw [<- HC3e.out];exact HCP2.out
 have HSE3:Hid (c3.se=c2.se):=by rw [<- HC3e.out];rfl
 have HPS3:Hid (c3.ps=x3.ps):=by rw [<- HC3e.out];exact HPS2.out.trans hg3.ps.symm
 have HCD3:Hid (c3.cand=[iB]):=by
  rw [<- HC3e.out];show lessL (setI []) c2.cand=[iB];rw [HCD2.out];rfl
 rw [HC3e.out] at s10;have HEN:=hid (End_some s10.tail 1 0 (by rw [HSE3.out];exact HN2.out));rw [HCP3.out] at HEN;clear s10 hc3 hg3 HC3e HST;go_wp2_with (go_at_call 67;(with_reducible refine HEN.out.mono ?_);refine halt_ ?_)
 rintro e w11 ⟨rfl,s11⟩;have hl3:0<c3.se.length:=by rw [HSE3.out,HLEN2.out];omega
 have he4:=fun j=>ended_at (c:=c3) (f:=0) hl3 j;obtain ⟨c4,HC4e⟩:∃ c4,Hid (c3.ended 0=c4):=⟨_,rfl⟩;have HCP4:Hid (c4.cp=co.cp):=by rw [<- HC4e.out];exact HCP3.out
 have HPS4:Hid (c4.ps=x3.ps):=by rw [<- HC4e.out];exact HPS3.out
 have HCD4:Hid (c4.cand=[iB]):=by rw [<- HC4e.out];exact HCD3.out
 have HNH:Hid (heldC c4 iB=false):=by
  rw [Hid, <- HC4e.out,Bool.eq_false_iff];intro hh;obtain ⟨j,hj,hx⟩:=held_iff.1 hh;have hx:(asc ((c3.ended 0).se.getD j ses0).H iB).isSome=true:=hx;rw [he4] at hx;by_cases e:j=0
  · rw [if_pos e] at hx;cases hx
  rw [if_neg e,HSE3.out] at hx;have:=HO2.out j e;have this:c2.se.getD j ses0=ses0:=this;rw [this] at hx;cases hx
 rw [HC4e.out] at s11
 have HST:=hid (Step_of s11 HPS4.out C10.out 9 (by rw [HCD4.out];exact HOKS.out) (by rw [HCD4.out];simp) [iB] (by
  show (c4.cand.filter fun i=> !heldC c4 i).take _=[iB];rw [HCD4.out];simp [HNH.out]))
 rw [HCP4.out] at HST;clear s11 he4 HC4e HEN;go_wp2_with (go_at_call 62;(with_reducible refine HST.out.mono ?_);refine halt_ ?_)
 rintro e w12 ⟨A2,cap2,x4,rfl,s12,hc4,hg4⟩;rw [show (([iB]:List ID).length)=1 from rfl];have G12:=hid hg4;have HPS5:Hid (x2.ps=x4.ps):=(hg4.ps.trans G10.out.ps).symm;rw [HPS5.out];have S12:Hid (SW w.heap.size w (x4.obs [riOb A2 [iB],coOb { c4 with cand:=lessL (setI [iB]) c4.cand },riOb (some ⟨W5.heap.size,0,none⟩) [iA],cellOb gB 31 #[.int .u64 iB.1,.int .i64 iB.2],cellOb gA 31 #[.int .u64 iA.1,.int .i64 iA.2]]) w12):=SW.front (pre:=[_,_,_,_,_,_]) s12 [2,3,4,5,0,1] (n:=6) rfl (by decide);have S13:=hid (S12.out.newIds1 iB);have HSM:=hid (Same_S S13.out (xs:=[iB]) (ys:=[iB]) (A:=A2) (B:=some ⟨w12.heap.size,0,none⟩) (by simp) (by simp) (by simp) (by simp) cap2 1 (decide_eq_true rfl));rw [show (([iB]:List ID).length)=1 from rfl] at HSM
 have hB4:(asc x4.C iB).isSome=false:=by
  rw [G12.out.has];simp
 have hA4:(asc x4.C iA).isSome=true:=by
  rw [G12.out.has,G10.out.has,HC2.out];simp [asc,iAB_ne2]
 have HHB:=hid (fun (W:World) (s:SW w.heap.size w (riOb (some ⟨w12.heap.size,0,none⟩) [iB]::x4.obs [riOb A2 [iB],coOb { c4 with cand:=lessL (setI [iB]) c4.cand },riOb (some ⟨W5.heap.size,0,none⟩) [iA],cellOb gB 31 #[.int .u64 iB.1,.int .i64 iB.2],cellOb gA 31 #[.int .u64 iA.1,.int .i64 iA.2]]) W)=>Has_any s.1.tail iB iB_ok);have HHA:=hid (fun (W:World) (s:SW w.heap.size w (riOb (some ⟨w12.heap.size,0,none⟩) [iB]::x4.obs [riOb A2 [iB],coOb { c4 with cand:=lessL (setI [iB]) c4.cand },riOb (some ⟨W5.heap.size,0,none⟩) [iA],cellOb gB 31 #[.int .u64 iB.1,.int .i64 iB.2],cellOb gA 31 #[.int .u64 iA.1,.int .i64 iA.2]]) W)=>Has_any s.1.tail iA iA_ok);rw [hB4] at HHB;rw [hA4] at HHA;have b0:=(S12.out.cell 7 rfl).cell 0;have b1:=(S12.out.cell 7 rfl).cell 1;clear s12 hc4 hg4 HST hB4 hA4;go_wp2_with (go_at_call 64;(with_reducible refine HSM.out.mono ?_);refine halt_ ?_)
 rintro e w13 ⟨rfl,s13⟩;have b0:=(s13.cell 8 rfl).cell 0;have b1:=(s13.cell 8 rfl).cell 1;have S14:=hid s13;clear s13;go_wp2_with (go_at_call 46;(with_reducible refine (HHB.out _ S14.out).mono ?_);refine halt_ ?_)
 rintro e w14 ⟨rfl,hb14⟩;have S15:=hid (S14.out.on hb14);have a0:=(S15.out.cell 9 rfl).cell 0;have a1:=(S15.out.cell 9 rfl).cell 1;clear hb14 b0 b1 S14;go_wp2_with (go_at_call 46;(with_reducible refine (HHA.out _ S15.out).mono ?_);refine halt_ ?_)
 rintro e w15 ⟨rfl,hb15⟩;have S16:=hid (S15.out.on hb15);clear hb15 a0 a1 S15;go_wp2_with fail
 go_ret;exact ⟨rfl,S16.out.2⟩
end
section
open Go.RowKit Go.MapKept Go.ChangeMaps Go.Shelf Go.Sort
attribute [local go_sem] wext_cell
end
section
open Go.RowKit Go.MapKept Go.ChangeMaps Go.Shelf Go.Sort
attribute [local go_sem] wext_cell
end
section
open Go.RowKit Go.MapKept Go.ChangeMaps Go.Shelf Go.Sort
structure BSt where
 n:Nat
 P:List (List UInt8)
 live:List ID
def bgStep (L:List Int) (s:BSt):BSt:=⟨s.n+1+textN L s.n+1,s.P++[textB L s.n],s.live++if tnext L (s.n+1+textN L s.n) 3=0 then [fpOf (textB L s.n)] else []⟩
def bgS (L:List Int):Nat->BSt
 | 0=>⟨1,[],[]⟩
 | k+1=>bgStep L (bgS L k)
def bgK (L:List Int):Nat:=(tnext L 0 12).toNat
theorem bgK_le (L:List Int):((bgK L:Nat):Int)=tnext L 0 12/\bgK L<=11:=by
 obtain ⟨h0,h1⟩:=tnext_in L 0 12;have h1:=h1 (by omega);unfold bgK;omega
theorem bgS_len (L:List Int):∀ k,(bgS L k).P.length=k
 | 0=>rfl
 | k+1=>by
  show ((bgS L k).P++[_]).length=_;rw [List.length_append,bgS_len L k];rfl
theorem bgS_n (L:List Int):∀ k,(bgS L k).n<=1+6*k
 | 0=>Nat.le_refl _
 | k+1=>by
  have h:=bgS_n L k;have h2:=(textN_in L (bgS L k).n).2;show (bgS L k).n+1+textN L (bgS L k).n+1<=_;omega
theorem bgS_live (L:List Int):∀ k,(bgS L k).live.length<=k/\∀ i∈(bgS L k).live,i∈(bgS L k).P.map fpOf
 | 0=>⟨Nat.le_refl _,fun i hi=>by cases hi⟩
 | k+1=>by
  obtain ⟨h1,h2⟩:=bgS_live L k;refine ⟨?_,fun i hi=>?_⟩
  · show ((bgS L k).live++_).length<=_;rw [List.length_append];split
    · simp only [List.length_cons,List.length_nil];omega
    simp only [List.length_nil];omega
  show i∈((bgS L k).P++[_]).map fpOf;rw [List.map_append];have hi:i∈(bgS L k).live++if tnext L ((bgS L k).n+1+textN L (bgS L k).n) 3=0 then [fpOf (textB L (bgS L k).n)] else []:=hi
  rcases List.mem_append.1 hi with hi | hi
  · exact List.mem_append_left _ (h2 i hi)
  split at hi
  · rw [List.mem_singleton.1 hi];simp
  cases hi
theorem RTX.len {r:R3} {P:List (List UInt8)} (h:RTX r P):r.E.length<=P.length:=by
 have hn:r.ids.Nodup:=List.pairwise_map.2 (h.sort.imp (fun hlt e=>by rw [e,ltI_irr] at hlt;cases hlt));have:=len_le_sub r.ids (P.map fpOf) hn (fun i hi=>(h.has i).1 hi);simpa [R3.ids] using this
theorem IsText.ok {bs:List UInt8} (h:IsText bs):okID (fpOf bs):=okID_fp bs (by have:=h.hi;omega)
end
end Go.Proofs.YteabgcollokgjaaGreatDoor
