/- Q -/
import Derived.Test.YteabgcollokgjaaGreatDoorQC29
set_option linter.unusedSimpArgs false
set_option linter.unusedVariables false
set_option maxRecDepth 100000
set_option maxHeartbeats 32000000
open Go.Lib (hid)
open List renaming mem_cons_of_mem → zA,getD_eq_getElem?_getD → zB,length_append → zC,drop_succ_cons → zD,drop_zero → zE,length_cons → zF,length_map → zG,length_singleton → zH,setIfInBounds_toArray → zI
namespace Go.Proofs.YteabgcollokgjaaGreatDoor
section
open Go.RowKit Go.MapKept Go.ChangeMaps Go.Shelf Go.Sort
attribute [local go_sem] wext_cell
section
variable {w:World} {l:List Ob}
theorem law10_any (h:SW w.heap.size w l w) {A:Option Addr} {L:List Int} (hin:inOb A L∈l) (cap:Nat):Calls Tryz.prog 10 #[.slice A L.length cap] w (fun e w'=>e= .returned (.bool true)/\Below w.heap.size w w'):=by
 have S2:=hid (h.newTape hin cap (H:=w.heap.size) rfl);clear h hin;obtain ⟨i1,gi,gz0,gz1,gz2⟩:=info_parts info34;obtain ⟨j1,gj,gy0,gy1,gy2⟩:=info_parts info31;go_enter Tryz.func10,Tryz.ntmps10;go_upto_region 2 with fail
 obtain ⟨W2,HW2⟩:∃ W2,Hid (w.alloc (.cells #[.slice A L.length cap,.int .i64 0] 50)=W2):=⟨_,rfl⟩;obtain ⟨tg,HTG⟩:∃ tg,Hid (w.heap.size=tg):=⟨_,rfl⟩;have S2:Hid (SW w.heap.size w (tpOb tg A cap L 0::l) W2):=by rw [Hid, <- HW2.out, <- HTG.out];exact S2.out
 rw [HW2.out,HTG.out];have HNW:=hid (New_S S2.out);go_wp2_with (go_at_call 21;(with_reducible refine HNW.out.mono ?_);refine halt_ ?_)
 rintro e w3 ⟨rp,rfl,s3⟩;have HO:=hid (Open_LS (ns:=[fileN nmS]) s3 nmS nmS_ok rfl rfl (fun _=>rfl) rfl (by simp) (by simp));clear s3 HNW S2 HW2;go_wp2_with (go_at_call 20;(with_reducible refine HO.out.mono ?_);refine halt_ ?_)
 rintro e w4 ⟨x0,rfl,hs,hc,hC,hF,hnm,hp,hw,hby,hoo⟩;have S4:=hid hs;have C0:=hid hc;have X0:Hid (x0.C=[]/\x0.F=none):=⟨hC,hF⟩;have HKN:=hid (known33_any w4);obtain ⟨ps,HPS⟩:∃ ps,Hid (x0.ps=ps):=⟨_,rfl⟩;rw [HPS.out];clear hs hc hC hF hnm hp hw hby hoo HO;go_wp2_with (go_at_call 22;(with_reducible refine HKN.out.mono ?_);refine halt_ ?_)
 rintro e w5 ⟨rfl,hb5⟩;have S5:Hid (SW w.heap.size w (x0.obs (tpOb tg A cap L 0::l)) w5):=S4.out.on hb5;clear hb5 HKN S4;go_upto_region 9 with fail
 have S6:=hid (S5.out.newCellAt 85 #[.int .i64 2,.int .i64 6,.int .i64 1,.int .u64 1] (H:=w5.heap.size) rfl);generalize w5.alloc _=W6 at S6 |-; generalize w5.heap.size=g6 at S6 |-; clear S5;have HN1:=hid (Next_x S6.out 5 rfl 40 (by omega) (by omega));obtain ⟨hd0,hd1⟩:=tnext_in L 0 40;have hd1:=hd1 (by omega);obtain ⟨m,HM⟩:∃ m:Nat,Hid (tnext L 0 40=(m:Int)):=⟨(tnext L 0 40).toNat,by rw [Hid];omega⟩;rw [HM.out] at hd0 hd1 HN1;go_wp2_with (go_at_call 33;(with_reducible refine HN1.out.mono ?_);refine halt_ ?_)
 rintro e w6 ⟨rfl,s6⟩;have S7:Hid (SW w.heap.size w (cellOb g6 85 #[.int .i64 2,.int .i64 6,.int .i64 1,.int .u64 1]::x0.obs (tpOb tg A cap L 1::l)) w6):=s6;have HBY:=hid (Bytes_y S7.out 5 rfl m 3 (by omega) (by omega) (by omega) (by omega))
 have H4:Hid (∀ y∈tbytes L 1 3 m,y.toNat<4):=fun y hy=>by
  have:=tbytes_lt L 1 (k:=3) (by omega) (by omega) m y hy;omega
 have HBL:=hid (tbytes_len L 1 3 m);obtain ⟨hb,HBS⟩:∃ hb,Hid (tbytes L 1 3 m=hb):=⟨_,rfl⟩;rw [HBS.out] at HBY H4 HBL;have hbl:hb.length<=39:=by rw [HBL.out];omega
 clear s6 HN1 S6 HM HBS;go_wp2_with (go_at_call 54;(with_reducible refine HBY.out.mono ?_);refine halt_ ?_)
 rintro e w7 ⟨hd,rfl,s7⟩;have S8:Hid (SW w.heap.size w (x0.obs (bsOb [⟨hd,hb⟩]::cellOb g6 85 #[.int .i64 2,.int .i64 6,.int .i64 1,.int .u64 1]::tpOb tg A cap L (1+m)::l)) w7):=SW.front (pre:=[_,_,_,_,_,_,_]) (SW.bufBs s7) [2,3,4,5,0,1,6] (n:=7) rfl (by decide);clear s7 HBY S7;have HN2:Hid (Calls Tryz.prog 33 #[vPtr tg,.int .i64 3] w7 (fun e w'=>e= .returned (.int .i64 (tnext L (1+m) 3))/\SW w.heap.size w (x0.obs (bsOb [⟨hd,hb⟩]::cellOb g6 85 #[.int .i64 2,.int .i64 6,.int .i64 1,.int .u64 1]::tpOb tg A cap L (1+m+1)::l)) w')):=Next_x S8.out 6 rfl 3 (by omega) (by omega)
 obtain ⟨k0,HK0,hk0⟩:∃ k0:Nat,Hid (tnext L (1+m) 3=(k0:Int))/\k0<=2:=by
  obtain ⟨h0,h1⟩:=tnext_in L (1+m) 3;have h1:=h1 (by omega);exact ⟨(tnext L (1+m) 3).toNat,by rw [Hid];omega,by omega⟩
 rw [HK0.out] at HN2;go_wp2_with (go_at_call 33;(with_reducible refine HN2.out.mono ?_);refine halt_ ?_)
 rintro e w8 ⟨rfl,s8⟩;have hw2:IntKind.i64.wrap (2+(k0:Int))=2+(k0:Int):=IntWalk.i64_in _ (by omega)
 have S9:Hid (SW w.heap.size w (rowOb 34 1 (.slice none ([]:List BS).length 0) ([]:List BS).length (([]:List BS).flatMap encB)::bsOb ([]:List BS)::rowOb 31 2 (.slice none ([]:List ID).length 0) ([]:List ID).length (([]:List ID).flatMap encID)::x0.obs (bsOb [⟨hd,hb⟩]::cellOb g6 85 #[.int .i64 2,.int .i64 6,.int .i64 1,.int .u64 1]::tpOb tg A cap L (1+m+1)::l)) w8):=by
  have s9:=SW.newRow (SW.noBs (SW.newRow s8 31 2)) 34 1;exact s9
 clear s8 HN2 S8;go_wp2_with fail
 go_loopw [7,8,9,11] (fun s7 s8 s9 s11 wr=>∃ (k n:Nat) (x:SR) (ts:List (List UInt8)) (T:List BS) (PA:Option Addr) (pc:Nat) (all:List ID) (LA:Option Addr) (lc:Nat),s11= .int .i64 (k:Int)/\s8= .slice PA T.length pc/\s7= .slice LA all.length lc/\s9= .int .i64 (sumI all)/\k+ts.length<=4/\n+12*k<=200/\Hid (Cl [fileN nmS] x/\TQ (onceQ hb ts) x (onceQ hb ts)/\x.ps=ps/\x.F=none/\T.map (·.bs)=onceQ hb ts/\AllI all (onceQ hb ts)/\(∀ t∈ts,t.length<=11/\∀ y∈t,y.toNat<4)/\TS (onceQ hb ts))/\SW w.heap.size w (rowOb 34 1 (.slice PA T.length pc) T.length (T.flatMap encB)::bsOb T::rowOb 31 2 (.slice LA all.length lc) all.length (all.flatMap encID)::x.obs (bsOb [⟨hd,hb⟩]::cellOb g6 85 #[.int .i64 2,.int .i64 6,.int .i64 1,.int .u64 1]::tpOb tg A cap L n::l)) wr) (fun _ _ _ s11 _=>(intOf s11).toNat)
 case atStart=>
  refine ⟨2+k0,1+m+1,x0,[],[],none,0,[],none,0,by go_num,rfl,rfl,rfl,by simp;omega,by omega,⟨C0.out,TQ.empty X0.out.1,HPS.out,X0.out.2,rfl,⟨List.nodup_nil,by simp [onceQ]⟩,(by simp),?_⟩,S9.out⟩;exact TS.once hbl (by simp) (by simp) H4.out (by simp) (by simp [onceQ])
 clear S9 C0 X0 HPS;obtain ⟨k,n,x,ts,T,PA,pc,all,LA,lc,rfl,rfl,rfl,rfl,hk4,hn,HX,hs⟩:=hrel;have S10:=hid hs;clear hs;cases k with
 | succ k=>
  have hkp:(0:Int)<((k+1:Nat):Int):=by omega
  obtain ⟨R,HR⟩:∃ R,Hid ((rowOb 34 1 (.slice PA T.length pc) T.length (T.flatMap encB)::bsOb T::rowOb 31 2 (.slice LA all.length lc) all.length (all.flatMap encID)::x.obs l)=R):=⟨_,rfl⟩
  have S11:Hid (SW w.heap.size w (tpOb tg A cap L n::bsOb [⟨hd,hb⟩]::cellOb g6 85 #[.int .i64 2,.int .i64 6,.int .i64 1,.int .u64 1]::R) wr.drew):=by
   rw [<- HR.out];exact (SW.front (pre:=[_,_,_,_,_,_,_,_,_,_]) S10.out [9,7,8,0,1,2,3,4,5,6] (n:=10) rfl (by decide)).drew
  obtain ⟨q,HTQ,hq⟩:∃ q:Nat,Hid (tnext L n 12=(q:Int))/\q<=11:=by
   obtain ⟨h0,h1⟩:=tnext_in L n 12;have h1:=h1 (by omega);exact ⟨(tnext L n 12).toNat,by rw [Hid];omega,by omega⟩
  have HT4:Hid (∀ y∈tbytes L (n+1) 3 q,y.toNat<4):=fun y hy=>by
   have:=tbytes_lt L (n+1) (k:=3) (by omega) (by omega) q y hy;omega
  have htl:=tbytes_len L (n+1) 3 q;obtain ⟨tb,HTB⟩:∃ tb,Hid (tbytes L (n+1) 3 q=tb):=⟨_,rfl⟩;rw [HTB.out] at HT4 htl;obtain ⟨ct,HCT⟩:∃ ct,Hid (hb++tb=ct):=⟨_,rfl⟩;have hcl:ct.length<=50:=by rw [<- HCT.out,zC];omega
  have HPB:Hid (∀ td:BD,∀ e∈[(⟨hd,hb⟩:BS),⟨td,tb⟩],e.bs.length<=1000):=fun td e he=>by
   rcases List.mem_cons.1 he with rfl | he
   · show hb.length<=1000;omega
   rw [List.mem_singleton.1 he];show tb.length<=1000;omega
  clear S10;go_upto_region 13 with fail
  have S20:=S11;obtain ⟨wd,HWD⟩:∃ wd,Hid (wr.drew=wd):=⟨_,rfl⟩;clear S11;go_cut [12,13,14] from 44 to 117 (fun s12 s13 s14 wx=>∃ (gM:Nat) (va:Option Addr) (vc:Nat) (B:Option Addr) (E:List BS),s12= .pointer (some ⟨gM,0,none⟩)/\s13= .slice B E.length E.length/\s14= .int .i64 0/\E.map (·.bs)=cutsF c6 ct/\SW w.heap.size w (cellOb gM 89 #[.int .i64 (ct.length:Int),.slice va E.length vc]::riOb va (idS E)::blOb B E::bsOb [⟨hd,hb⟩]::cellOb g6 85 #[.int .i64 2,.int .i64 6,.int .i64 1,.int .u64 1]::tpOb tg A cap L (n+1+q)::R) wx)
  case first=>
   refine wp_region_tree 16 (.take 0 (.take 1 (.take 2 (.take 3 (.two 4 (.two 5 (.two 6 (.two 7 (.two 8 (.take 9 (.take 10 (.take 11 (.take 12 (.one 13 (.one 14 (.take 15 .nil))))))) 13 (.one 8 (.take 9 (.take 10 (.take 11 (.take 12 (.one 14 (.take 15 .nil)))))))) 13 (.one 7 (.one 8 (.take 9 (.take 10 (.take 11 (.take 12 (.one 14 (.take 15 .nil))))))))) 13 (.one 6 (.one 7 (.one 8 (.take 9 (.take 10 (.take 11 (.take 12 (.one 14 (.take 15 .nil)))))))))) 13 (.one 5 (.one 6 (.one 7 (.one 8 (.take 9 (.take 10 (.take 11 (.take 12 (.one 14 (.take 15 .nil))))))))))) 13 (.one 4 (.one 5 (.one 6 (.one 7 (.one 8 (.take 9 (.take 10 (.take 11 (.take 12 (.one 14 (.take 15 .nil)))))))))))))))) (fun w'=>w'.cell? ⟨g6,0,none⟩=some (.int .i64 2)/\w'.cell? ⟨g6,1,none⟩=some (.int .i64 6)/\w'.cell? ⟨g6,2,none⟩=some (.int .i64 1)/\w'.cell? ⟨g6,3,none⟩=some (.int .u64 1)) (by kernel_rfl) (fun _ _ d _ _ h=>by cases d<;>exact h) (by kernel_rfl) (⟨(S20.out.cell 2 rfl).cell 0,(S20.out.cell 2 rfl).cell 1,(S20.out.cell 2 rfl).cell 2,(S20.out.cell 2 rfl).cell 3⟩) ?_;rw [HWD.out] at S20 |-; clear HWD
   iterate 4
    refine wpTr_takeL rfl ?_ (Or.inl ⟨by rfl,?_⟩) ?_;rotate_left
    · (intro w' hSw;obtain ⟨h1,h2,h3,h4⟩:=hSw;go_simp;try with_reducible rfl)
    try simp only [Act.put,zI,List.set]
   refine wpTr_two ?_ ?_
   · refine wpTr_runL rfl (fun K' hK'=>?_);go_simp;go_at_call 33
     refine (Next_x S20.out 0 rfl 12 (by omega) (by omega)).mono ?_;rintro e wc1 ⟨rfl,sv1⟩;rw [HTQ.out];have SV1:SW w.heap.size w (tpOb tg A cap L (n+1)::bsOb [⟨hd,hb⟩]::cellOb g6 85 #[.int .i64 2,.int .i64 6,.int .i64 1,.int .u64 1]::R) wc1:=sv1;clear sv1;go_wp2_with fail
     refine hK'.out _ _ (⟨(SV1.cell 2 rfl).cell 0,(SV1.cell 2 rfl).cell 1,(SV1.cell 2 rfl).cell 2,(SV1.cell 2 rfl).cell 3⟩) ?_;clear hK' K';try simp only [Act.put,zI,List.set]
     refine wpTr_two ?_ ?_
     · refine wpTr_runL rfl (fun K' hK'=>?_);go_simp;go_at_call 54
       refine (Bytes_y SV1 0 rfl q 3 (by omega) (by omega) (by omega) (by omega)).mono ?_;rintro e wc2 ⟨td2,rfl,sv2⟩;rw [HTB.out] at sv2;have SV2:SW w.heap.size w (bsOb [⟨td2,tb⟩]::tpOb tg A cap L (n+1+q)::bsOb [⟨hd,hb⟩]::cellOb g6 85 #[.int .i64 2,.int .i64 6,.int .i64 1,.int .u64 1]::R) wc2:=SW.bufBs sv2;clear sv2;go_wp2_with fail
       refine hK'.out _ _ (⟨(SV2.cell 3 rfl).cell 0,(SV2.cell 3 rfl).cell 1,(SV2.cell 3 rfl).cell 2,(SV2.cell 3 rfl).cell 3⟩) ?_;clear hK' K';try simp only [Act.put,zI,List.set]
       refine wpTr_two ?_ ?_
       · refine wpTr_runL rfl (fun K' hK'=>?_);have SA3:SW w.heap.size w (cellOb _ 34 #[.slice hd.A hd.len hd.cap,.slice td2.A td2.len td2.cap]::bsOb [⟨td2,tb⟩]::tpOb tg A cap L (n+1+q)::bsOb [⟨hd,hb⟩]::cellOb g6 85 #[.int .i64 2,.int .i64 6,.int .i64 1,.int .u64 1]::R) _:=SW.newCell SV2 34 #[.slice hd.A hd.len hd.cap,.slice td2.A td2.len td2.cap];go_simp;refine hK'.out _ _ (⟨(SA3.cell 4 rfl).cell 0,(SA3.cell 4 rfl).cell 1,(SA3.cell 4 rfl).cell 2,(SA3.cell 4 rfl).cell 3⟩) ?_;clear hK' K';obtain ⟨gn3,wn3,eG3,eW3,SB3⟩:∃ gn3 wn3,Hid (_=gn3)/\Hid (_=wn3)/\SW w.heap.size w (cellOb gn3 34 #[.slice hd.A hd.len hd.cap,.slice td2.A td2.len td2.cap]::bsOb [⟨td2,tb⟩]::tpOb tg A cap L (n+1+q)::bsOb [⟨hd,hb⟩]::cellOb g6 85 #[.int .i64 2,.int .i64 6,.int .i64 1,.int .u64 1]::R) wn3:=⟨_,_,rfl,rfl,SA3⟩;rw [eG3.out,eW3.out];clear eG3 eW3 SA3;try simp only [Act.put,zI,List.set]
         refine wpTr_two ?_ ?_
         · refine wpTr_runL rfl (fun K' hK'=>?_);have SP5:SW w.heap.size w (bsOb [⟨hd,hb⟩]::cellOb gn3 34 #[.slice hd.A hd.len hd.cap,.slice td2.A td2.len td2.cap]::bsOb [⟨td2,tb⟩]::tpOb tg A cap L (n+1+q)::cellOb g6 85 #[.int .i64 2,.int .i64 6,.int .i64 1,.int .u64 1]::R) _:=SW.front (pre:=[_,_,_,_,_]) SB3 [3,0,1,2,4] (n:=5) rfl (by decide);have SD4:SW w.heap.size w (bsOb [⟨hd,hb⟩]::bsOb [⟨hd,hb⟩]::cellOb gn3 34 #[.slice hd.A hd.len hd.cap,.slice td2.A td2.len td2.cap]::bsOb [⟨td2,tb⟩]::tpOb tg A cap L (n+1+q)::cellOb g6 85 #[.int .i64 2,.int .i64 6,.int .i64 1,.int .u64 1]::R) _:=SW.dup SP5 (fun _ h=>h);have SE4:SW w.heap.size w (cellOb gn3 34 #[.slice hd.A hd.len hd.cap,.slice td2.A td2.len td2.cap]::bsOb [⟨hd,hb⟩]::bsOb [⟨td2,tb⟩]::bsOb [⟨hd,hb⟩]::tpOb tg A cap L (n+1+q)::cellOb g6 85 #[.int .i64 2,.int .i64 6,.int .i64 1,.int .u64 1]::R) _:=SW.front (pre:=[_,_,_,_,_,_]) SD4 [2,0,3,1,4,5] (n:=6) rfl (by decide);have SF4:SW w.heap.size w (blOb (some ⟨gn3,0,none⟩) [⟨hd,hb⟩,⟨td2,tb⟩]::bsOb [⟨hd,hb⟩]::tpOb tg A cap L (n+1+q)::cellOb g6 85 #[.int .i64 2,.int .i64 6,.int .i64 1,.int .u64 1]::R) _:=SW.mkPair SE4;go_simp;go_at_call 56
           refine (Joined_any SF4 (A:=some ⟨gn3,0,none⟩) (T:=[⟨hd,hb⟩,⟨td2,tb⟩]) (by simp) 2 (by simp) (HPB.out td2)).mono ?_;rintro e wc6 ⟨jd6,rfl,sv6⟩;rw [show joinT [(⟨hd,hb⟩:BS),⟨td2,tb⟩]=ct from by rw [<- HCT.out];simp [joinT]] at sv6;have hjl6:jd6.len=ct.length:=(sv6.get 0 (o:=bufOb jd6 ct) rfl:RB wc6 jd6 ct).1.symm
           have hjc6:ct.length<=jd6.cap:=by
            have:=(sv6.get 0 (o:=bufOb jd6 ct) rfl:RB wc6 jd6 ct).2.1;omega
           have SV6:SW w.heap.size w (rsOb jd6.A ct::bsOb [⟨hd,hb⟩]::tpOb tg A cap L (n+1+q)::cellOb g6 85 #[.int .i64 2,.int .i64 6,.int .i64 1,.int .u64 1]::R) wc6:=SW.few (pre:=[_,_,_,_,_]) (SW.bufRs sv6) [0,2,3,4] (n:=5) rfl (by decide) (by decide);rw [hjl6];clear sv6 hjl6;go_wp2_with fail
           refine hK'.out _ _ (⟨(SV6.cell 3 rfl).cell 0,(SV6.cell 3 rfl).cell 1,(SV6.cell 3 rfl).cell 2,(SV6.cell 3 rfl).cell 3⟩) ?_;clear hK' K';try simp only [Act.put,zI,List.set]
           refine wpTr_two ?_ ?_
           · refine wpTr_runL rfl (fun K' hK'=>?_);go_simp;go_at_call 55
             refine (build_any SV6 c6 c6_ok (A:=jd6.A) (bs:=ct) (by simp) jd6.cap hjc6 (by omega)).mono ?_;rintro e wc7 ⟨v7,B7,E7,rfl,hE7,sv7⟩;obtain ⟨va7,vc7,rfl⟩:=own_slI (sv7.get 0 rfl)
             have SV7:SW w.heap.size w (riOb va7 (idS E7)::blOb B7 E7::rsOb jd6.A ct::bsOb [⟨hd,hb⟩]::tpOb tg A cap L (n+1+q)::cellOb g6 85 #[.int .i64 2,.int .i64 6,.int .i64 1,.int .u64 1]::R) wc7:=by
              have h9:(idS E7).length=E7.length:=idS_len E7;rw [<- h9] at sv7;exact sv7.rowRi
             clear sv7;go_wp2_with fail
             refine hK'.out _ _ (⟨(SV7.cell 5 rfl).cell 0,(SV7.cell 5 rfl).cell 1,(SV7.cell 5 rfl).cell 2,(SV7.cell 5 rfl).cell 3⟩) ?_;clear hK' K';try simp only [Act.put,zI,List.set]
             iterate 4
              refine wpTr_takeL rfl ?_ (Or.inl ⟨by rfl,?_⟩) ?_;rotate_left
              · (intro w' hSw;obtain ⟨h1,h2,h3,h4⟩:=hSw;go_simp;try with_reducible rfl)
              try simp only [Act.put,zI,List.set]
             refine wpTr_one ?_;refine wpTr_runL rfl (fun K' hK'=>?_);have SA8:SW w.heap.size w (cellOb _ 89 #[.int .i64 0,.slice none 0 0]::riOb va7 (idS E7)::blOb B7 E7::rsOb jd6.A ct::bsOb [⟨hd,hb⟩]::tpOb tg A cap L (n+1+q)::cellOb g6 85 #[.int .i64 2,.int .i64 6,.int .i64 1,.int .u64 1]::R) _:=SW.newCell SV7 89 #[.int .i64 0,.slice none 0 0];go_simp;refine hK'.out _ _ (⟨(SA8.cell 6 rfl).cell 0,(SA8.cell 6 rfl).cell 1,(SA8.cell 6 rfl).cell 2,(SA8.cell 6 rfl).cell 3⟩) ?_;clear hK' K';obtain ⟨gn8,wn8,eG8,eW8,SB8⟩:∃ gn8 wn8,Hid (_=gn8)/\Hid (_=wn8)/\SW w.heap.size w (cellOb gn8 89 #[.int .i64 0,.slice none 0 0]::riOb va7 (idS E7)::blOb B7 E7::rsOb jd6.A ct::bsOb [⟨hd,hb⟩]::tpOb tg A cap L (n+1+q)::cellOb g6 85 #[.int .i64 2,.int .i64 6,.int .i64 1,.int .u64 1]::R) wn8:=⟨_,_,rfl,rfl,SA8⟩;rw [eG8.out,eW8.out];clear eG8 eW8 SA8;try simp only [Act.put,zI,List.set]
             refine wpTr_one ?_;refine wpTr_runL rfl (fun K' hK'=>?_);have z0:=(SB8.cell 0 rfl).cell 0;have z1:=(SB8.cell 0 rfl).cell 1;have f0:=(SB8.cell 0 rfl).frozen 0;have f1:=(SB8.cell 0 rfl).frozen 1;have SZ9:SW w.heap.size w (cellOb gn8 89 #[.int .i64 (ct.length:Int),.slice va7 E7.length vc7]::riOb va7 (idS E7)::blOb B7 E7::rsOb jd6.A ct::bsOb [⟨hd,hb⟩]::tpOb tg A cap L (n+1+q)::cellOb g6 85 #[.int .i64 2,.int .i64 6,.int .i64 1,.int .u64 1]::R) _:=(SB8.setAt 0 rfl 0 (.int .i64 (ct.length:Int))).setAt 0 rfl 1 (.slice va7 E7.length vc7);go_simp;refine hK'.out _ _ (⟨(SZ9.cell 6 rfl).cell 0,(SZ9.cell 6 rfl).cell 1,(SZ9.cell 6 rfl).cell 2,(SZ9.cell 6 rfl).cell 3⟩) ?_;clear hK' K' z0 z1 f0 f1;try simp only [Act.put,zI,List.set]
             refine wpTr_takeL rfl ?_ (Or.inl ⟨by rfl,?_⟩) ?_;rotate_left
             · (intro w' hSw;obtain ⟨h1,h2,h3,h4⟩:=hSw;go_simp;try with_reducible rfl)
             try simp only [Act.put,zI,List.set]
             refine wpTr_nil ?_;simp only [zD,zE];have SY:=SW.few (pre:=[_,_,_,_,_,_,_]) SZ9 [0,1,2,4,6,5] (n:=7) rfl (by decide) (by decide);go_wp2_with fail
             go_meet;exact ⟨gn8,va7,vc7,B7,E7,rfl,rfl,rfl,hE7,SY⟩
           refine wpTr_runL rfl (fun K' hK'=>?_);have SA10:SW w.heap.size w (cellOb _ 89 #[.int .i64 0,.slice none 0 0]::rsOb jd6.A ct::bsOb [⟨hd,hb⟩]::tpOb tg A cap L (n+1+q)::cellOb g6 85 #[.int .i64 2,.int .i64 6,.int .i64 1,.int .u64 1]::R) _:=SW.newCell SV6 89 #[.int .i64 0,.slice none 0 0];go_simp;refine hK'.out _ _ (⟨(SA10.cell 4 rfl).cell 0,(SA10.cell 4 rfl).cell 1,(SA10.cell 4 rfl).cell 2,(SA10.cell 4 rfl).cell 3⟩) ?_;clear hK' K';obtain ⟨gn10,wn10,eG10,eW10,SB10⟩:∃ gn10 wn10,Hid (_=gn10)/\Hid (_=wn10)/\SW w.heap.size w (cellOb gn10 89 #[.int .i64 0,.slice none 0 0]::rsOb jd6.A ct::bsOb [⟨hd,hb⟩]::tpOb tg A cap L (n+1+q)::cellOb g6 85 #[.int .i64 2,.int .i64 6,.int .i64 1,.int .u64 1]::R) wn10:=⟨_,_,rfl,rfl,SA10⟩;rw [eG10.out,eW10.out];clear eG10 eW10 SA10;try simp only [Act.put,zI,List.set]
           refine wpTr_one ?_;refine wpTr_runL rfl (fun K' hK'=>?_);go_simp;go_at_call 55
           refine (build_any SB10 c6 c6_ok (A:=jd6.A) (bs:=ct) (by simp) jd6.cap hjc6 (by omega)).mono ?_;rintro e wc11 ⟨v11,B11,E11,rfl,hE11,sv11⟩;obtain ⟨va11,vc11,rfl⟩:=own_slI (sv11.get 0 rfl)
           have SV11:SW w.heap.size w (riOb va11 (idS E11)::blOb B11 E11::cellOb gn10 89 #[.int .i64 0,.slice none 0 0]::rsOb jd6.A ct::bsOb [⟨hd,hb⟩]::tpOb tg A cap L (n+1+q)::cellOb g6 85 #[.int .i64 2,.int .i64 6,.int .i64 1,.int .u64 1]::R) wc11:=by
            have h9:(idS E11).length=E11.length:=idS_len E11;rw [<- h9] at sv11;exact sv11.rowRi
           clear sv11;go_wp2_with fail
           refine hK'.out _ _ (⟨(SV11.cell 6 rfl).cell 0,(SV11.cell 6 rfl).cell 1,(SV11.cell 6 rfl).cell 2,(SV11.cell 6 rfl).cell 3⟩) ?_;clear hK' K';try simp only [Act.put,zI,List.set]
           iterate 4
            refine wpTr_takeL rfl ?_ (Or.inl ⟨by rfl,?_⟩) ?_;rotate_left
            · (intro w' hSw;obtain ⟨h1,h2,h3,h4⟩:=hSw;go_simp;try with_reducible rfl)
            try simp only [Act.put,zI,List.set]
           refine wpTr_one ?_;refine wpTr_runL rfl (fun K' hK'=>?_);have z0:=(SV11.cell 2 rfl).cell 0;have z1:=(SV11.cell 2 rfl).cell 1;have f0:=(SV11.cell 2 rfl).frozen 0;have f1:=(SV11.cell 2 rfl).frozen 1;have SZ12:SW w.heap.size w (riOb va11 (idS E11)::blOb B11 E11::cellOb gn10 89 #[.int .i64 (ct.length:Int),.slice va11 E11.length vc11]::rsOb jd6.A ct::bsOb [⟨hd,hb⟩]::tpOb tg A cap L (n+1+q)::cellOb g6 85 #[.int .i64 2,.int .i64 6,.int .i64 1,.int .u64 1]::R) _:=(SV11.setAt 2 rfl 0 (.int .i64 (ct.length:Int))).setAt 2 rfl 1 (.slice va11 E11.length vc11);go_simp;refine hK'.out _ _ (⟨(SZ12.cell 6 rfl).cell 0,(SZ12.cell 6 rfl).cell 1,(SZ12.cell 6 rfl).cell 2,(SZ12.cell 6 rfl).cell 3⟩) ?_;clear hK' K' z0 z1 f0 f1;try simp only [Act.put,zI,List.set]
           refine wpTr_takeL rfl ?_ (Or.inl ⟨by rfl,?_⟩) ?_;rotate_left
           · (intro w' hSw;obtain ⟨h1,h2,h3,h4⟩:=hSw;go_simp;try with_reducible rfl)
           try simp only [Act.put,zI,List.set]
           refine wpTr_nil ?_;simp only [zD,zE];have SY:=SW.few (pre:=[_,_,_,_,_,_,_]) SZ12 [2,0,1,4,6,5] (n:=7) rfl (by decide) (by decide);go_wp2_with fail
           go_meet;exact ⟨gn10,va11,vc11,B11,E11,rfl,rfl,rfl,hE11,SY⟩
         refine wpTr_runL rfl (fun K' hK'=>?_);have SA13:SW w.heap.size w (cellOb _ 89 #[.int .i64 0,.slice none 0 0]::cellOb gn3 34 #[.slice hd.A hd.len hd.cap,.slice td2.A td2.len td2.cap]::bsOb [⟨td2,tb⟩]::tpOb tg A cap L (n+1+q)::bsOb [⟨hd,hb⟩]::cellOb g6 85 #[.int .i64 2,.int .i64 6,.int .i64 1,.int .u64 1]::R) _:=SW.newCell SB3 89 #[.int .i64 0,.slice none 0 0];go_simp;refine hK'.out _ _ (⟨(SA13.cell 5 rfl).cell 0,(SA13.cell 5 rfl).cell 1,(SA13.cell 5 rfl).cell 2,(SA13.cell 5 rfl).cell 3⟩) ?_;clear hK' K';obtain ⟨gn13,wn13,eG13,eW13,SB13⟩:∃ gn13 wn13,Hid (_=gn13)/\Hid (_=wn13)/\SW w.heap.size w (cellOb gn13 89 #[.int .i64 0,.slice none 0 0]::cellOb gn3 34 #[.slice hd.A hd.len hd.cap,.slice td2.A td2.len td2.cap]::bsOb [⟨td2,tb⟩]::tpOb tg A cap L (n+1+q)::bsOb [⟨hd,hb⟩]::cellOb g6 85 #[.int .i64 2,.int .i64 6,.int .i64 1,.int .u64 1]::R) wn13:=⟨_,_,rfl,rfl,SA13⟩;rw [eG13.out,eW13.out];clear eG13 eW13 SA13;try simp only [Act.put,zI,List.set]
         refine wpTr_one ?_;refine wpTr_runL rfl (fun K' hK'=>?_);have SP15:SW w.heap.size w (bsOb [⟨hd,hb⟩]::cellOb gn13 89 #[.int .i64 0,.slice none 0 0]::cellOb gn3 34 #[.slice hd.A hd.len hd.cap,.slice td2.A td2.len td2.cap]::bsOb [⟨td2,tb⟩]::tpOb tg A cap L (n+1+q)::cellOb g6 85 #[.int .i64 2,.int .i64 6,.int .i64 1,.int .u64 1]::R) _:=SW.front (pre:=[_,_,_,_,_,_]) SB13 [4,0,1,2,3,5] (n:=6) rfl (by decide);have SD14:SW w.heap.size w (bsOb [⟨hd,hb⟩]::bsOb [⟨hd,hb⟩]::cellOb gn13 89 #[.int .i64 0,.slice none 0 0]::cellOb gn3 34 #[.slice hd.A hd.len hd.cap,.slice td2.A td2.len td2.cap]::bsOb [⟨td2,tb⟩]::tpOb tg A cap L (n+1+q)::cellOb g6 85 #[.int .i64 2,.int .i64 6,.int .i64 1,.int .u64 1]::R) _:=SW.dup SP15 (fun _ h=>h);have SE14:SW w.heap.size w (cellOb gn3 34 #[.slice hd.A hd.len hd.cap,.slice td2.A td2.len td2.cap]::bsOb [⟨hd,hb⟩]::bsOb [⟨td2,tb⟩]::bsOb [⟨hd,hb⟩]::cellOb gn13 89 #[.int .i64 0,.slice none 0 0]::tpOb tg A cap L (n+1+q)::cellOb g6 85 #[.int .i64 2,.int .i64 6,.int .i64 1,.int .u64 1]::R) _:=SW.front (pre:=[_,_,_,_,_,_,_]) SD14 [3,0,4,1,2,5,6] (n:=7) rfl (by decide)
         have SF14:SW w.heap.size w (blOb (some ⟨gn3,0,none⟩) [⟨hd,hb⟩,⟨td2,tb⟩]::bsOb [⟨hd,hb⟩]::cellOb gn13 89 #[.int .i64 0,.slice none 0 0]::tpOb tg A cap L (n+1+q)::cellOb g6 85 #[.int .i64 2,.int .i64 6,.int .i64 1,.int .u64 1]::R) _:=SW.mkPair SE14;go_simp;go_at_call 56
         refine (Joined_any SF14 (A:=some ⟨gn3,0,none⟩) (T:=[⟨hd,hb⟩,⟨td2,tb⟩]) (by simp) 2 (by simp) (HPB.out td2)).mono ?_;rintro e wc16 ⟨jd16,rfl,sv16⟩;rw [show joinT [(⟨hd,hb⟩:BS),⟨td2,tb⟩]=ct from by rw [<- HCT.out];simp [joinT]] at sv16;have hjl16:jd16.len=ct.length:=(sv16.get 0 (o:=bufOb jd16 ct) rfl:RB wc16 jd16 ct).1.symm
         have hjc16:ct.length<=jd16.cap:=by
          have:=(sv16.get 0 (o:=bufOb jd16 ct) rfl:RB wc16 jd16 ct).2.1;omega
         have SV16:SW w.heap.size w (rsOb jd16.A ct::bsOb [⟨hd,hb⟩]::cellOb gn13 89 #[.int .i64 0,.slice none 0 0]::tpOb tg A cap L (n+1+q)::cellOb g6 85 #[.int .i64 2,.int .i64 6,.int .i64 1,.int .u64 1]::R) wc16:=SW.few (pre:=[_,_,_,_,_,_]) (SW.bufRs sv16) [0,2,3,4,5] (n:=6) rfl (by decide) (by decide);rw [hjl16];clear sv16 hjl16;go_wp2_with fail
         refine hK'.out _ _ (⟨(SV16.cell 4 rfl).cell 0,(SV16.cell 4 rfl).cell 1,(SV16.cell 4 rfl).cell 2,(SV16.cell 4 rfl).cell 3⟩) ?_;clear hK' K';try simp only [Act.put,zI,List.set]
         refine wpTr_one ?_;refine wpTr_runL rfl (fun K' hK'=>?_);go_simp;go_at_call 55
         refine (build_any SV16 c6 c6_ok (A:=jd16.A) (bs:=ct) (by simp) jd16.cap hjc16 (by omega)).mono ?_;rintro e wc17 ⟨v17,B17,E17,rfl,hE17,sv17⟩;obtain ⟨va17,vc17,rfl⟩:=own_slI (sv17.get 0 rfl)
         have SV17:SW w.heap.size w (riOb va17 (idS E17)::blOb B17 E17::rsOb jd16.A ct::bsOb [⟨hd,hb⟩]::cellOb gn13 89 #[.int .i64 0,.slice none 0 0]::tpOb tg A cap L (n+1+q)::cellOb g6 85 #[.int .i64 2,.int .i64 6,.int .i64 1,.int .u64 1]::R) wc17:=by
          have h9:(idS E17).length=E17.length:=idS_len E17;rw [<- h9] at sv17;exact sv17.rowRi
         clear sv17;go_wp2_with fail
         refine hK'.out _ _ (⟨(SV17.cell 6 rfl).cell 0,(SV17.cell 6 rfl).cell 1,(SV17.cell 6 rfl).cell 2,(SV17.cell 6 rfl).cell 3⟩) ?_;clear hK' K';try simp only [Act.put,zI,List.set]
         iterate 4
          refine wpTr_takeL rfl ?_ (Or.inl ⟨by rfl,?_⟩) ?_;rotate_left
          · (intro w' hSw;obtain ⟨h1,h2,h3,h4⟩:=hSw;go_simp;try with_reducible rfl)
          try simp only [Act.put,zI,List.set]
         refine wpTr_one ?_;refine wpTr_runL rfl (fun K' hK'=>?_);have z0:=(SV17.cell 4 rfl).cell 0;have z1:=(SV17.cell 4 rfl).cell 1;have f0:=(SV17.cell 4 rfl).frozen 0;have f1:=(SV17.cell 4 rfl).frozen 1;have SZ18:SW w.heap.size w (riOb va17 (idS E17)::blOb B17 E17::rsOb jd16.A ct::bsOb [⟨hd,hb⟩]::cellOb gn13 89 #[.int .i64 (ct.length:Int),.slice va17 E17.length vc17]::tpOb tg A cap L (n+1+q)::cellOb g6 85 #[.int .i64 2,.int .i64 6,.int .i64 1,.int .u64 1]::R) _:=(SV17.setAt 4 rfl 0 (.int .i64 (ct.length:Int))).setAt 4 rfl 1 (.slice va17 E17.length vc17);go_simp;refine hK'.out _ _ (⟨(SZ18.cell 6 rfl).cell 0,(SZ18.cell 6 rfl).cell 1,(SZ18.cell 6 rfl).cell 2,(SZ18.cell 6 rfl).cell 3⟩) ?_;clear hK' K' z0 z1 f0 f1;try simp only [Act.put,zI,List.set]
         refine wpTr_takeL rfl ?_ (Or.inl ⟨by rfl,?_⟩) ?_;rotate_left
         · (intro w' hSw;obtain ⟨h1,h2,h3,h4⟩:=hSw;go_simp;try with_reducible rfl)
         try simp only [Act.put,zI,List.set]
         refine wpTr_nil ?_;simp only [zD,zE];have SY:=SW.few (pre:=[_,_,_,_,_,_,_]) SZ18 [4,0,1,3,6,5] (n:=7) rfl (by decide) (by decide);go_wp2_with fail
         go_meet;exact ⟨gn13,va17,vc17,B17,E17,rfl,rfl,rfl,hE17,SY⟩
       refine wpTr_runL rfl (fun K' hK'=>?_);have SA19:SW w.heap.size w (cellOb _ 89 #[.int .i64 0,.slice none 0 0]::bsOb [⟨td2,tb⟩]::tpOb tg A cap L (n+1+q)::bsOb [⟨hd,hb⟩]::cellOb g6 85 #[.int .i64 2,.int .i64 6,.int .i64 1,.int .u64 1]::R) _:=SW.newCell SV2 89 #[.int .i64 0,.slice none 0 0];go_simp;refine hK'.out _ _ (⟨(SA19.cell 4 rfl).cell 0,(SA19.cell 4 rfl).cell 1,(SA19.cell 4 rfl).cell 2,(SA19.cell 4 rfl).cell 3⟩) ?_;clear hK' K';obtain ⟨gn19,wn19,eG19,eW19,SB19⟩:∃ gn19 wn19,Hid (_=gn19)/\Hid (_=wn19)/\SW w.heap.size w (cellOb gn19 89 #[.int .i64 0,.slice none 0 0]::bsOb [⟨td2,tb⟩]::tpOb tg A cap L (n+1+q)::bsOb [⟨hd,hb⟩]::cellOb g6 85 #[.int .i64 2,.int .i64 6,.int .i64 1,.int .u64 1]::R) wn19:=⟨_,_,rfl,rfl,SA19⟩;rw [eG19.out,eW19.out];clear eG19 eW19 SA19;try simp only [Act.put,zI,List.set]
       refine wpTr_one ?_;refine wpTr_runL rfl (fun K' hK'=>?_);have SA20:SW w.heap.size w (cellOb _ 34 #[.slice hd.A hd.len hd.cap,.slice td2.A td2.len td2.cap]::cellOb gn19 89 #[.int .i64 0,.slice none 0 0]::bsOb [⟨td2,tb⟩]::tpOb tg A cap L (n+1+q)::bsOb [⟨hd,hb⟩]::cellOb g6 85 #[.int .i64 2,.int .i64 6,.int .i64 1,.int .u64 1]::R) _:=SW.newCell SB19 34 #[.slice hd.A hd.len hd.cap,.slice td2.A td2.len td2.cap];go_simp;refine hK'.out _ _ (⟨(SA20.cell 5 rfl).cell 0,(SA20.cell 5 rfl).cell 1,(SA20.cell 5 rfl).cell 2,(SA20.cell 5 rfl).cell 3⟩) ?_;clear hK' K';obtain ⟨gn20,wn20,eG20,eW20,SB20⟩:∃ gn20 wn20,Hid (_=gn20)/\Hid (_=wn20)/\SW w.heap.size w (cellOb gn20 34 #[.slice hd.A hd.len hd.cap,.slice td2.A td2.len td2.cap]::cellOb gn19 89 #[.int .i64 0,.slice none 0 0]::bsOb [⟨td2,tb⟩]::tpOb tg A cap L (n+1+q)::bsOb [⟨hd,hb⟩]::cellOb g6 85 #[.int .i64 2,.int .i64 6,.int .i64 1,.int .u64 1]::R) wn20:=⟨_,_,rfl,rfl,SA20⟩;rw [eG20.out,eW20.out];clear eG20 eW20 SA20;try simp only [Act.put,zI,List.set]
       refine wpTr_one ?_;refine wpTr_runL rfl (fun K' hK'=>?_);have SP22:SW w.heap.size w (bsOb [⟨hd,hb⟩]::cellOb gn20 34 #[.slice hd.A hd.len hd.cap,.slice td2.A td2.len td2.cap]::cellOb gn19 89 #[.int .i64 0,.slice none 0 0]::bsOb [⟨td2,tb⟩]::tpOb tg A cap L (n+1+q)::cellOb g6 85 #[.int .i64 2,.int .i64 6,.int .i64 1,.int .u64 1]::R) _:=SW.front (pre:=[_,_,_,_,_,_]) SB20 [4,0,1,2,3,5] (n:=6) rfl (by decide);have SD21:SW w.heap.size w (bsOb [⟨hd,hb⟩]::bsOb [⟨hd,hb⟩]::cellOb gn20 34 #[.slice hd.A hd.len hd.cap,.slice td2.A td2.len td2.cap]::cellOb gn19 89 #[.int .i64 0,.slice none 0 0]::bsOb [⟨td2,tb⟩]::tpOb tg A cap L (n+1+q)::cellOb g6 85 #[.int .i64 2,.int .i64 6,.int .i64 1,.int .u64 1]::R) _:=SW.dup SP22 (fun _ h=>h);have SE21:SW w.heap.size w (cellOb gn20 34 #[.slice hd.A hd.len hd.cap,.slice td2.A td2.len td2.cap]::bsOb [⟨hd,hb⟩]::bsOb [⟨td2,tb⟩]::bsOb [⟨hd,hb⟩]::cellOb gn19 89 #[.int .i64 0,.slice none 0 0]::tpOb tg A cap L (n+1+q)::cellOb g6 85 #[.int .i64 2,.int .i64 6,.int .i64 1,.int .u64 1]::R) _:=SW.front (pre:=[_,_,_,_,_,_,_]) SD21 [2,0,4,1,3,5,6] (n:=7) rfl (by decide)
       have SF21:SW w.heap.size w (blOb (some ⟨gn20,0,none⟩) [⟨hd,hb⟩,⟨td2,tb⟩]::bsOb [⟨hd,hb⟩]::cellOb gn19 89 #[.int .i64 0,.slice none 0 0]::tpOb tg A cap L (n+1+q)::cellOb g6 85 #[.int .i64 2,.int .i64 6,.int .i64 1,.int .u64 1]::R) _:=SW.mkPair SE21;go_simp;go_at_call 56
       refine (Joined_any SF21 (A:=some ⟨gn20,0,none⟩) (T:=[⟨hd,hb⟩,⟨td2,tb⟩]) (by simp) 2 (by simp) (HPB.out td2)).mono ?_;rintro e wc23 ⟨jd23,rfl,sv23⟩;rw [show joinT [(⟨hd,hb⟩:BS),⟨td2,tb⟩]=ct from by rw [<- HCT.out];simp [joinT]] at sv23;have hjl23:jd23.len=ct.length:=(sv23.get 0 (o:=bufOb jd23 ct) rfl:RB wc23 jd23 ct).1.symm
       have hjc23:ct.length<=jd23.cap:=by
        have:=(sv23.get 0 (o:=bufOb jd23 ct) rfl:RB wc23 jd23 ct).2.1;omega
       have SV23:SW w.heap.size w (rsOb jd23.A ct::bsOb [⟨hd,hb⟩]::cellOb gn19 89 #[.int .i64 0,.slice none 0 0]::tpOb tg A cap L (n+1+q)::cellOb g6 85 #[.int .i64 2,.int .i64 6,.int .i64 1,.int .u64 1]::R) wc23:=SW.few (pre:=[_,_,_,_,_,_]) (SW.bufRs sv23) [0,2,3,4,5] (n:=6) rfl (by decide) (by decide);rw [hjl23];clear sv23 hjl23;go_wp2_with fail
       refine hK'.out _ _ (⟨(SV23.cell 4 rfl).cell 0,(SV23.cell 4 rfl).cell 1,(SV23.cell 4 rfl).cell 2,(SV23.cell 4 rfl).cell 3⟩) ?_;clear hK' K';try simp only [Act.put,zI,List.set]
       refine wpTr_one ?_;refine wpTr_runL rfl (fun K' hK'=>?_);go_simp;go_at_call 55
       refine (build_any SV23 c6 c6_ok (A:=jd23.A) (bs:=ct) (by simp) jd23.cap hjc23 (by omega)).mono ?_;rintro e wc24 ⟨v24,B24,E24,rfl,hE24,sv24⟩;obtain ⟨va24,vc24,rfl⟩:=own_slI (sv24.get 0 rfl)
       have SV24:SW w.heap.size w (riOb va24 (idS E24)::blOb B24 E24::rsOb jd23.A ct::bsOb [⟨hd,hb⟩]::cellOb gn19 89 #[.int .i64 0,.slice none 0 0]::tpOb tg A cap L (n+1+q)::cellOb g6 85 #[.int .i64 2,.int .i64 6,.int .i64 1,.int .u64 1]::R) wc24:=by
        have h9:(idS E24).length=E24.length:=idS_len E24;rw [<- h9] at sv24;exact sv24.rowRi
       clear sv24;go_wp2_with fail
       refine hK'.out _ _ (⟨(SV24.cell 6 rfl).cell 0,(SV24.cell 6 rfl).cell 1,(SV24.cell 6 rfl).cell 2,(SV24.cell 6 rfl).cell 3⟩) ?_;clear hK' K';try simp only [Act.put,zI,List.set]
       iterate 4
        refine wpTr_takeL rfl ?_ (Or.inl ⟨by rfl,?_⟩) ?_;rotate_left
        · (intro w' hSw;obtain ⟨h1,h2,h3,h4⟩:=hSw;go_simp;try with_reducible rfl)
        try simp only [Act.put,zI,List.set]
       refine wpTr_one ?_;refine wpTr_runL rfl (fun K' hK'=>?_);have z0:=(SV24.cell 4 rfl).cell 0;have z1:=(SV24.cell 4 rfl).cell 1;have f0:=(SV24.cell 4 rfl).frozen 0;have f1:=(SV24.cell 4 rfl).frozen 1;have SZ25:SW w.heap.size w (riOb va24 (idS E24)::blOb B24 E24::rsOb jd23.A ct::bsOb [⟨hd,hb⟩]::cellOb gn19 89 #[.int .i64 (ct.length:Int),.slice va24 E24.length vc24]::tpOb tg A cap L (n+1+q)::cellOb g6 85 #[.int .i64 2,.int .i64 6,.int .i64 1,.int .u64 1]::R) _:=(SV24.setAt 4 rfl 0 (.int .i64 (ct.length:Int))).setAt 4 rfl 1 (.slice va24 E24.length vc24);go_simp;refine hK'.out _ _ (⟨(SZ25.cell 6 rfl).cell 0,(SZ25.cell 6 rfl).cell 1,(SZ25.cell 6 rfl).cell 2,(SZ25.cell 6 rfl).cell 3⟩) ?_;clear hK' K' z0 z1 f0 f1;try simp only [Act.put,zI,List.set]
       refine wpTr_takeL rfl ?_ (Or.inl ⟨by rfl,?_⟩) ?_;rotate_left
       · (intro w' hSw;obtain ⟨h1,h2,h3,h4⟩:=hSw;go_simp;try with_reducible rfl)
       try simp only [Act.put,zI,List.set]
       refine wpTr_nil ?_;simp only [zD,zE];have SY:=SW.few (pre:=[_,_,_,_,_,_,_]) SZ25 [4,0,1,3,6,5] (n:=7) rfl (by decide) (by decide);go_wp2_with fail
       go_meet;exact ⟨gn19,va24,vc24,B24,E24,rfl,rfl,rfl,hE24,SY⟩
     refine wpTr_runL rfl (fun K' hK'=>?_);have SA26:SW w.heap.size w (cellOb _ 89 #[.int .i64 0,.slice none 0 0]::tpOb tg A cap L (n+1)::bsOb [⟨hd,hb⟩]::cellOb g6 85 #[.int .i64 2,.int .i64 6,.int .i64 1,.int .u64 1]::R) _:=SW.newCell SV1 89 #[.int .i64 0,.slice none 0 0];go_simp;refine hK'.out _ _ (⟨(SA26.cell 3 rfl).cell 0,(SA26.cell 3 rfl).cell 1,(SA26.cell 3 rfl).cell 2,(SA26.cell 3 rfl).cell 3⟩) ?_;clear hK' K';obtain ⟨gn26,wn26,eG26,eW26,SB26⟩:∃ gn26 wn26,Hid (_=gn26)/\Hid (_=wn26)/\SW w.heap.size w (cellOb gn26 89 #[.int .i64 0,.slice none 0 0]::tpOb tg A cap L (n+1)::bsOb [⟨hd,hb⟩]::cellOb g6 85 #[.int .i64 2,.int .i64 6,.int .i64 1,.int .u64 1]::R) wn26:=⟨_,_,rfl,rfl,SA26⟩;rw [eG26.out,eW26.out];clear eG26 eW26 SA26;try simp only [Act.put,zI,List.set]
     refine wpTr_one ?_;refine wpTr_runL rfl (fun K' hK'=>?_);go_simp;go_at_call 54
     refine (Bytes_y SB26 1 rfl q 3 (by omega) (by omega) (by omega) (by omega)).mono ?_;rintro e wc27 ⟨td27,rfl,sv27⟩;rw [HTB.out] at sv27;have SV27:SW w.heap.size w (bsOb [⟨td27,tb⟩]::cellOb gn26 89 #[.int .i64 0,.slice none 0 0]::tpOb tg A cap L (n+1+q)::bsOb [⟨hd,hb⟩]::cellOb g6 85 #[.int .i64 2,.int .i64 6,.int .i64 1,.int .u64 1]::R) wc27:=SW.bufBs sv27;clear sv27;go_wp2_with fail
     refine hK'.out _ _ (⟨(SV27.cell 4 rfl).cell 0,(SV27.cell 4 rfl).cell 1,(SV27.cell 4 rfl).cell 2,(SV27.cell 4 rfl).cell 3⟩) ?_;clear hK' K';try simp only [Act.put,zI,List.set]
     refine wpTr_one ?_;refine wpTr_runL rfl (fun K' hK'=>?_);have SA28:SW w.heap.size w (cellOb _ 34 #[.slice hd.A hd.len hd.cap,.slice td27.A td27.len td27.cap]::bsOb [⟨td27,tb⟩]::cellOb gn26 89 #[.int .i64 0,.slice none 0 0]::tpOb tg A cap L (n+1+q)::bsOb [⟨hd,hb⟩]::cellOb g6 85 #[.int .i64 2,.int .i64 6,.int .i64 1,.int .u64 1]::R) _:=SW.newCell SV27 34 #[.slice hd.A hd.len hd.cap,.slice td27.A td27.len td27.cap];go_simp;refine hK'.out _ _ (⟨(SA28.cell 5 rfl).cell 0,(SA28.cell 5 rfl).cell 1,(SA28.cell 5 rfl).cell 2,(SA28.cell 5 rfl).cell 3⟩) ?_;clear hK' K';obtain ⟨gn28,wn28,eG28,eW28,SB28⟩:∃ gn28 wn28,Hid (_=gn28)/\Hid (_=wn28)/\SW w.heap.size w (cellOb gn28 34 #[.slice hd.A hd.len hd.cap,.slice td27.A td27.len td27.cap]::bsOb [⟨td27,tb⟩]::cellOb gn26 89 #[.int .i64 0,.slice none 0 0]::tpOb tg A cap L (n+1+q)::bsOb [⟨hd,hb⟩]::cellOb g6 85 #[.int .i64 2,.int .i64 6,.int .i64 1,.int .u64 1]::R) wn28:=⟨_,_,rfl,rfl,SA28⟩;rw [eG28.out,eW28.out];clear eG28 eW28 SA28;try simp only [Act.put,zI,List.set]
     refine wpTr_one ?_;refine wpTr_runL rfl (fun K' hK'=>?_);have SP30:SW w.heap.size w (bsOb [⟨hd,hb⟩]::cellOb gn28 34 #[.slice hd.A hd.len hd.cap,.slice td27.A td27.len td27.cap]::bsOb [⟨td27,tb⟩]::cellOb gn26 89 #[.int .i64 0,.slice none 0 0]::tpOb tg A cap L (n+1+q)::cellOb g6 85 #[.int .i64 2,.int .i64 6,.int .i64 1,.int .u64 1]::R) _:=SW.front (pre:=[_,_,_,_,_,_]) SB28 [4,0,1,2,3,5] (n:=6) rfl (by decide);have SD29:SW w.heap.size w (bsOb [⟨hd,hb⟩]::bsOb [⟨hd,hb⟩]::cellOb gn28 34 #[.slice hd.A hd.len hd.cap,.slice td27.A td27.len td27.cap]::bsOb [⟨td27,tb⟩]::cellOb gn26 89 #[.int .i64 0,.slice none 0 0]::tpOb tg A cap L (n+1+q)::cellOb g6 85 #[.int .i64 2,.int .i64 6,.int .i64 1,.int .u64 1]::R) _:=SW.dup SP30 (fun _ h=>h);have SE29:SW w.heap.size w (cellOb gn28 34 #[.slice hd.A hd.len hd.cap,.slice td27.A td27.len td27.cap]::bsOb [⟨hd,hb⟩]::bsOb [⟨td27,tb⟩]::bsOb [⟨hd,hb⟩]::cellOb gn26 89 #[.int .i64 0,.slice none 0 0]::tpOb tg A cap L (n+1+q)::cellOb g6 85 #[.int .i64 2,.int .i64 6,.int .i64 1,.int .u64 1]::R) _:=SW.front (pre:=[_,_,_,_,_,_,_]) SD29 [2,0,3,1,4,5,6] (n:=7) rfl (by decide)
     have SF29:SW w.heap.size w (blOb (some ⟨gn28,0,none⟩) [⟨hd,hb⟩,⟨td27,tb⟩]::bsOb [⟨hd,hb⟩]::cellOb gn26 89 #[.int .i64 0,.slice none 0 0]::tpOb tg A cap L (n+1+q)::cellOb g6 85 #[.int .i64 2,.int .i64 6,.int .i64 1,.int .u64 1]::R) _:=SW.mkPair SE29;go_simp;go_at_call 56
     refine (Joined_any SF29 (A:=some ⟨gn28,0,none⟩) (T:=[⟨hd,hb⟩,⟨td27,tb⟩]) (by simp) 2 (by simp) (HPB.out td27)).mono ?_;rintro e wc31 ⟨jd31,rfl,sv31⟩;rw [show joinT [(⟨hd,hb⟩:BS),⟨td27,tb⟩]=ct from by rw [<- HCT.out];simp [joinT]] at sv31;have hjl31:jd31.len=ct.length:=(sv31.get 0 (o:=bufOb jd31 ct) rfl:RB wc31 jd31 ct).1.symm
     have hjc31:ct.length<=jd31.cap:=by
      have:=(sv31.get 0 (o:=bufOb jd31 ct) rfl:RB wc31 jd31 ct).2.1;omega
     have SV31:SW w.heap.size w (rsOb jd31.A ct::bsOb [⟨hd,hb⟩]::cellOb gn26 89 #[.int .i64 0,.slice none 0 0]::tpOb tg A cap L (n+1+q)::cellOb g6 85 #[.int .i64 2,.int .i64 6,.int .i64 1,.int .u64 1]::R) wc31:=SW.few (pre:=[_,_,_,_,_,_]) (SW.bufRs sv31) [0,2,3,4,5] (n:=6) rfl (by decide) (by decide);rw [hjl31];clear sv31 hjl31;go_wp2_with fail
     refine hK'.out _ _ (⟨(SV31.cell 4 rfl).cell 0,(SV31.cell 4 rfl).cell 1,(SV31.cell 4 rfl).cell 2,(SV31.cell 4 rfl).cell 3⟩) ?_;clear hK' K';try simp only [Act.put,zI,List.set]
     refine wpTr_one ?_;refine wpTr_runL rfl (fun K' hK'=>?_);go_simp;go_at_call 55
     refine (build_any SV31 c6 c6_ok (A:=jd31.A) (bs:=ct) (by simp) jd31.cap hjc31 (by omega)).mono ?_;rintro e wc32 ⟨v32,B32,E32,rfl,hE32,sv32⟩;obtain ⟨va32,vc32,rfl⟩:=own_slI (sv32.get 0 rfl)
     have SV32:SW w.heap.size w (riOb va32 (idS E32)::blOb B32 E32::rsOb jd31.A ct::bsOb [⟨hd,hb⟩]::cellOb gn26 89 #[.int .i64 0,.slice none 0 0]::tpOb tg A cap L (n+1+q)::cellOb g6 85 #[.int .i64 2,.int .i64 6,.int .i64 1,.int .u64 1]::R) wc32:=by
      have h9:(idS E32).length=E32.length:=idS_len E32;rw [<- h9] at sv32;exact sv32.rowRi
     clear sv32;go_wp2_with fail
     refine hK'.out _ _ (⟨(SV32.cell 6 rfl).cell 0,(SV32.cell 6 rfl).cell 1,(SV32.cell 6 rfl).cell 2,(SV32.cell 6 rfl).cell 3⟩) ?_;clear hK' K';try simp only [Act.put,zI,List.set]
     iterate 4
      refine wpTr_takeL rfl ?_ (Or.inl ⟨by rfl,?_⟩) ?_;rotate_left
      · (intro w' hSw;obtain ⟨h1,h2,h3,h4⟩:=hSw;go_simp;try with_reducible rfl)
      try simp only [Act.put,zI,List.set]
     refine wpTr_one ?_;refine wpTr_runL rfl (fun K' hK'=>?_);have z0:=(SV32.cell 4 rfl).cell 0;have z1:=(SV32.cell 4 rfl).cell 1;have f0:=(SV32.cell 4 rfl).frozen 0;have f1:=(SV32.cell 4 rfl).frozen 1;have SZ33:SW w.heap.size w (riOb va32 (idS E32)::blOb B32 E32::rsOb jd31.A ct::bsOb [⟨hd,hb⟩]::cellOb gn26 89 #[.int .i64 (ct.length:Int),.slice va32 E32.length vc32]::tpOb tg A cap L (n+1+q)::cellOb g6 85 #[.int .i64 2,.int .i64 6,.int .i64 1,.int .u64 1]::R) _:=(SV32.setAt 4 rfl 0 (.int .i64 (ct.length:Int))).setAt 4 rfl 1 (.slice va32 E32.length vc32);go_simp;refine hK'.out _ _ (⟨(SZ33.cell 6 rfl).cell 0,(SZ33.cell 6 rfl).cell 1,(SZ33.cell 6 rfl).cell 2,(SZ33.cell 6 rfl).cell 3⟩) ?_;clear hK' K' z0 z1 f0 f1;try simp only [Act.put,zI,List.set]
     refine wpTr_takeL rfl ?_ (Or.inl ⟨by rfl,?_⟩) ?_;rotate_left
     · (intro w' hSw;obtain ⟨h1,h2,h3,h4⟩:=hSw;go_simp;try with_reducible rfl)
     try simp only [Act.put,zI,List.set]
     refine wpTr_nil ?_;simp only [zD,zE];have SY:=SW.few (pre:=[_,_,_,_,_,_,_]) SZ33 [4,0,1,3,6,5] (n:=7) rfl (by decide) (by decide);go_wp2_with fail
     go_meet;exact ⟨gn26,va32,vc32,B32,E32,rfl,rfl,rfl,hE32,SY⟩
   refine wpTr_runL rfl (fun K' hK'=>?_);have SA34:SW w.heap.size w (cellOb _ 89 #[.int .i64 0,.slice none 0 0]::tpOb tg A cap L n::bsOb [⟨hd,hb⟩]::cellOb g6 85 #[.int .i64 2,.int .i64 6,.int .i64 1,.int .u64 1]::R) _:=SW.newCell S20.out 89 #[.int .i64 0,.slice none 0 0];go_simp;refine hK'.out _ _ (⟨(SA34.cell 3 rfl).cell 0,(SA34.cell 3 rfl).cell 1,(SA34.cell 3 rfl).cell 2,(SA34.cell 3 rfl).cell 3⟩) ?_;clear hK' K';obtain ⟨gn34,wn34,eG34,eW34,SB34⟩:∃ gn34 wn34,Hid (_=gn34)/\Hid (_=wn34)/\SW w.heap.size w (cellOb gn34 89 #[.int .i64 0,.slice none 0 0]::tpOb tg A cap L n::bsOb [⟨hd,hb⟩]::cellOb g6 85 #[.int .i64 2,.int .i64 6,.int .i64 1,.int .u64 1]::R) wn34:=⟨_,_,rfl,rfl,SA34⟩;rw [eG34.out,eW34.out];clear eG34 eW34 SA34;try simp only [Act.put,zI,List.set]
   refine wpTr_one ?_;refine wpTr_runL rfl (fun K' hK'=>?_);go_simp;go_at_call 33
   refine (Next_x SB34 1 rfl 12 (by omega) (by omega)).mono ?_;rintro e wc35 ⟨rfl,sv35⟩;rw [HTQ.out];have SV35:SW w.heap.size w (cellOb gn34 89 #[.int .i64 0,.slice none 0 0]::tpOb tg A cap L (n+1)::bsOb [⟨hd,hb⟩]::cellOb g6 85 #[.int .i64 2,.int .i64 6,.int .i64 1,.int .u64 1]::R) wc35:=sv35;clear sv35;go_wp2_with fail
   refine hK'.out _ _ (⟨(SV35.cell 3 rfl).cell 0,(SV35.cell 3 rfl).cell 1,(SV35.cell 3 rfl).cell 2,(SV35.cell 3 rfl).cell 3⟩) ?_;clear hK' K';try simp only [Act.put,zI,List.set]
   refine wpTr_one ?_;refine wpTr_runL rfl (fun K' hK'=>?_);go_simp;go_at_call 54
   refine (Bytes_y SV35 1 rfl q 3 (by omega) (by omega) (by omega) (by omega)).mono ?_;rintro e wc36 ⟨td36,rfl,sv36⟩;rw [HTB.out] at sv36;have SV36:SW w.heap.size w (bsOb [⟨td36,tb⟩]::cellOb gn34 89 #[.int .i64 0,.slice none 0 0]::tpOb tg A cap L (n+1+q)::bsOb [⟨hd,hb⟩]::cellOb g6 85 #[.int .i64 2,.int .i64 6,.int .i64 1,.int .u64 1]::R) wc36:=SW.bufBs sv36;clear sv36;go_wp2_with fail
   refine hK'.out _ _ (⟨(SV36.cell 4 rfl).cell 0,(SV36.cell 4 rfl).cell 1,(SV36.cell 4 rfl).cell 2,(SV36.cell 4 rfl).cell 3⟩) ?_;clear hK' K';try simp only [Act.put,zI,List.set]
   refine wpTr_one ?_;refine wpTr_runL rfl (fun K' hK'=>?_);have SA37:SW w.heap.size w (cellOb _ 34 #[.slice hd.A hd.len hd.cap,.slice td36.A td36.len td36.cap]::bsOb [⟨td36,tb⟩]::cellOb gn34 89 #[.int .i64 0,.slice none 0 0]::tpOb tg A cap L (n+1+q)::bsOb [⟨hd,hb⟩]::cellOb g6 85 #[.int .i64 2,.int .i64 6,.int .i64 1,.int .u64 1]::R) _:=SW.newCell SV36 34 #[.slice hd.A hd.len hd.cap,.slice td36.A td36.len td36.cap];go_simp;refine hK'.out _ _ (⟨(SA37.cell 5 rfl).cell 0,(SA37.cell 5 rfl).cell 1,(SA37.cell 5 rfl).cell 2,(SA37.cell 5 rfl).cell 3⟩) ?_;clear hK' K';obtain ⟨gn37,wn37,eG37,eW37,SB37⟩:∃ gn37 wn37,Hid (_=gn37)/\Hid (_=wn37)/\SW w.heap.size w (cellOb gn37 34 #[.slice hd.A hd.len hd.cap,.slice td36.A td36.len td36.cap]::bsOb [⟨td36,tb⟩]::cellOb gn34 89 #[.int .i64 0,.slice none 0 0]::tpOb tg A cap L (n+1+q)::bsOb [⟨hd,hb⟩]::cellOb g6 85 #[.int .i64 2,.int .i64 6,.int .i64 1,.int .u64 1]::R) wn37:=⟨_,_,rfl,rfl,SA37⟩;rw [eG37.out,eW37.out];clear eG37 eW37 SA37;try simp only [Act.put,zI,List.set]
   refine wpTr_one ?_;refine wpTr_runL rfl (fun K' hK'=>?_);have SP39:SW w.heap.size w (bsOb [⟨hd,hb⟩]::cellOb gn37 34 #[.slice hd.A hd.len hd.cap,.slice td36.A td36.len td36.cap]::bsOb [⟨td36,tb⟩]::cellOb gn34 89 #[.int .i64 0,.slice none 0 0]::tpOb tg A cap L (n+1+q)::cellOb g6 85 #[.int .i64 2,.int .i64 6,.int .i64 1,.int .u64 1]::R) _:=SW.front (pre:=[_,_,_,_,_,_]) SB37 [4,0,1,2,3,5] (n:=6) rfl (by decide);have SD38:SW w.heap.size w (bsOb [⟨hd,hb⟩]::bsOb [⟨hd,hb⟩]::cellOb gn37 34 #[.slice hd.A hd.len hd.cap,.slice td36.A td36.len td36.cap]::bsOb [⟨td36,tb⟩]::cellOb gn34 89 #[.int .i64 0,.slice none 0 0]::tpOb tg A cap L (n+1+q)::cellOb g6 85 #[.int .i64 2,.int .i64 6,.int .i64 1,.int .u64 1]::R) _:=SW.dup SP39 (fun _ h=>h);have SE38:SW w.heap.size w (cellOb gn37 34 #[.slice hd.A hd.len hd.cap,.slice td36.A td36.len td36.cap]::bsOb [⟨hd,hb⟩]::bsOb [⟨td36,tb⟩]::bsOb [⟨hd,hb⟩]::cellOb gn34 89 #[.int .i64 0,.slice none 0 0]::tpOb tg A cap L (n+1+q)::cellOb g6 85 #[.int .i64 2,.int .i64 6,.int .i64 1,.int .u64 1]::R) _:=SW.front (pre:=[_,_,_,_,_,_,_]) SD38 [2,0,3,1,4,5,6] (n:=7) rfl (by decide)
   have SF38:SW w.heap.size w (blOb (some ⟨gn37,0,none⟩) [⟨hd,hb⟩,⟨td36,tb⟩]::bsOb [⟨hd,hb⟩]::cellOb gn34 89 #[.int .i64 0,.slice none 0 0]::tpOb tg A cap L (n+1+q)::cellOb g6 85 #[.int .i64 2,.int .i64 6,.int .i64 1,.int .u64 1]::R) _:=SW.mkPair SE38;go_simp;go_at_call 56
   refine (Joined_any SF38 (A:=some ⟨gn37,0,none⟩) (T:=[⟨hd,hb⟩,⟨td36,tb⟩]) (by simp) 2 (by simp) (HPB.out td36)).mono ?_;rintro e wc40 ⟨jd40,rfl,sv40⟩;rw [show joinT [(⟨hd,hb⟩:BS),⟨td36,tb⟩]=ct from by rw [<- HCT.out];simp [joinT]] at sv40;have hjl40:jd40.len=ct.length:=(sv40.get 0 (o:=bufOb jd40 ct) rfl:RB wc40 jd40 ct).1.symm
   have hjc40:ct.length<=jd40.cap:=by
    have:=(sv40.get 0 (o:=bufOb jd40 ct) rfl:RB wc40 jd40 ct).2.1;omega
   have SV40:SW w.heap.size w (rsOb jd40.A ct::bsOb [⟨hd,hb⟩]::cellOb gn34 89 #[.int .i64 0,.slice none 0 0]::tpOb tg A cap L (n+1+q)::cellOb g6 85 #[.int .i64 2,.int .i64 6,.int .i64 1,.int .u64 1]::R) wc40:=SW.few (pre:=[_,_,_,_,_,_]) (SW.bufRs sv40) [0,2,3,4,5] (n:=6) rfl (by decide) (by decide);rw [hjl40];clear sv40 hjl40;go_wp2_with fail
   refine hK'.out _ _ (⟨(SV40.cell 4 rfl).cell 0,(SV40.cell 4 rfl).cell 1,(SV40.cell 4 rfl).cell 2,(SV40.cell 4 rfl).cell 3⟩) ?_;clear hK' K';try simp only [Act.put,zI,List.set]
   refine wpTr_one ?_;refine wpTr_runL rfl (fun K' hK'=>?_);go_simp;go_at_call 55
   refine (build_any SV40 c6 c6_ok (A:=jd40.A) (bs:=ct) (by simp) jd40.cap hjc40 (by omega)).mono ?_;rintro e wc41 ⟨v41,B41,E41,rfl,hE41,sv41⟩;obtain ⟨va41,vc41,rfl⟩:=own_slI (sv41.get 0 rfl)
   have SV41:SW w.heap.size w (riOb va41 (idS E41)::blOb B41 E41::rsOb jd40.A ct::bsOb [⟨hd,hb⟩]::cellOb gn34 89 #[.int .i64 0,.slice none 0 0]::tpOb tg A cap L (n+1+q)::cellOb g6 85 #[.int .i64 2,.int .i64 6,.int .i64 1,.int .u64 1]::R) wc41:=by
    have h9:(idS E41).length=E41.length:=idS_len E41;rw [<- h9] at sv41;exact sv41.rowRi
   clear sv41;go_wp2_with fail
   refine hK'.out _ _ (⟨(SV41.cell 6 rfl).cell 0,(SV41.cell 6 rfl).cell 1,(SV41.cell 6 rfl).cell 2,(SV41.cell 6 rfl).cell 3⟩) ?_;clear hK' K';try simp only [Act.put,zI,List.set]
   iterate 4
    refine wpTr_takeL rfl ?_ (Or.inl ⟨by rfl,?_⟩) ?_;rotate_left
    · (intro w' hSw;obtain ⟨h1,h2,h3,h4⟩:=hSw;go_simp;try with_reducible rfl)
    try simp only [Act.put,zI,List.set]
   refine wpTr_one ?_;refine wpTr_runL rfl (fun K' hK'=>?_);have z0:=(SV41.cell 4 rfl).cell 0;have z1:=(SV41.cell 4 rfl).cell 1;have f0:=(SV41.cell 4 rfl).frozen 0;have f1:=(SV41.cell 4 rfl).frozen 1;have SZ42:SW w.heap.size w (riOb va41 (idS E41)::blOb B41 E41::rsOb jd40.A ct::bsOb [⟨hd,hb⟩]::cellOb gn34 89 #[.int .i64 (ct.length:Int),.slice va41 E41.length vc41]::tpOb tg A cap L (n+1+q)::cellOb g6 85 #[.int .i64 2,.int .i64 6,.int .i64 1,.int .u64 1]::R) _:=(SV41.setAt 4 rfl 0 (.int .i64 (ct.length:Int))).setAt 4 rfl 1 (.slice va41 E41.length vc41);go_simp;refine hK'.out _ _ (⟨(SZ42.cell 6 rfl).cell 0,(SZ42.cell 6 rfl).cell 1,(SZ42.cell 6 rfl).cell 2,(SZ42.cell 6 rfl).cell 3⟩) ?_;clear hK' K' z0 z1 f0 f1;try simp only [Act.put,zI,List.set]
   refine wpTr_takeL rfl ?_ (Or.inl ⟨by rfl,?_⟩) ?_;rotate_left
   · (intro w' hSw;obtain ⟨h1,h2,h3,h4⟩:=hSw;go_simp;try with_reducible rfl)
   try simp only [Act.put,zI,List.set]
   refine wpTr_nil ?_;simp only [zD,zE];have SY:=SW.few (pre:=[_,_,_,_,_,_,_]) SZ42 [4,0,1,3,6,5] (n:=7) rfl (by decide) (by decide);go_wp2_with fail
   go_meet;exact ⟨gn34,va41,vc41,B41,E41,rfl,rfl,rfl,hE41,SY⟩
  obtain ⟨gM,va,vc,B,E,rfl,rfl,rfl,hE,hs⟩:=hcut;have HEC:=hid hE;obtain ⟨en,Hn⟩:∃ en,Hid (E.length=en):=⟨_,rfl⟩;obtain ⟨ids,HID⟩:∃ ids,Hid (idS E=ids):=⟨_,rfl⟩;have hil:ids.length=en:=by rw [<- HID.out, <- Hn.out];exact zG _
  have HEL:Hid (∀ e∈E,1<=e.bs.length/\e.bs.length<=50):=fun e he=>by
   have:=cuts_pos c6 ct e.bs (by rw [<- hE];exact List.mem_map.2 ⟨e,he,rfl⟩);omega
  have hen:en<=50:=by
   have h1:∀ M:List (List UInt8),(∀ t∈M,1<=t.length)->M.length<=lenS' M:=by
    intro M;induction M with
    | nil=>intro _;simp
    | cons t M ih=>
     intro h;have:=ih (fun s hs=>h s (zA _ hs));have:=h t (by simp);have e:lenS' (t::M)=t.length+lenS' M:=by simp [lenS']
     rw [zF,e];omega
   have h2:=h1 (cutsF c6 ct) (fun t ht=>(cuts_pos c6 ct t ht).1);rw [lenS_flat,cuts_all] at h2;have h3:=congrArg List.length hE;rw [zG,Hn.out] at h3;omega
  rw [HID.out] at hs
  have HTE:Hid (T.length<=200):=by
   have h1:=congrArg List.length HX.out.2.2.2.2.1;rw [zG] at h1
   have h2:∀ ts:List (List UInt8),(∀ t∈ts,t.length<=11)->(onceQ hb ts).length<=50*ts.length:=by
    intro ts;induction ts with
    | nil=>intro _;simp [onceQ]
    | cons t ts ih=>
     intro ht;have h3:=ih (fun s hs=>ht s (zA _ hs));have h4:=ht t (by simp);have e:onceQ hb (t::ts)=cutsF c6 (hb++t)++onceQ hb ts:=by simp [onceQ]
     have h5:(cutsF c6 (hb++t)).length<=50:=by
      have h6:∀ M:List (List UInt8),(∀ t∈M,1<=t.length)->M.length<=lenS' M:=by
       intro M;induction M with
       | nil=>intro _;simp
       | cons t M ih=>
        intro h;have:=ih (fun s hs=>h s (zA _ hs));have:=h t (by simp);have e:lenS' (t::M)=t.length+lenS' M:=by simp [lenS']
        rw [zF,e];omega
      have h7:=h6 (cutsF c6 (hb++t)) (fun s hs=>(cuts_pos c6 _ s hs).1);rw [lenS_flat,cuts_all,zC] at h7;omega
     rw [e,zC,zF];omega
   have h3:=h2 ts (fun t ht=>(HX.out.2.2.2.2.2.2.1 t ht).1);rw [Hid,h1];omega
  rw [Hn.out] at hs |-
  have S21:Hid (SW w.heap.size w (cellOb gM 89 #[.int .i64 (ct.length:Int),.slice va en vc]::rowOb 34 1 (.slice PA T.length pc) T.length (T.flatMap encB)::bsOb T::riOb va ids::blOb B E::bsOb [⟨hd,hb⟩]::cellOb g6 85 #[.int .i64 2,.int .i64 6,.int .i64 1,.int .u64 1]::tpOb tg A cap L (n+1+q)::rowOb 31 2 (.slice LA all.length lc) all.length (all.flatMap encID)::x.obs l) wc):=by
   have:=hs;rw [<- HR.out] at this;exact SW.front (pre:=[_,_,_,_,_,_,_,_,_]) this [0,6,7,1,2,3,4,5,8] (n:=9) rfl (by decide)
  clear hs hE HR;have m1:=(S21.out.cell 0 rfl).cell 1;have hfl:(E.flatMap encB).length=en*1:=by rw [flat_len encB_len,Hn.out]
  have hsr:0<en->∃ ad,B=some ad/\∀ j u,(E.flatMap encB)[j]? =some u->wc.cell? (ad.add j)=some u:=fun hp=>bl_src (S21.out.get 4 (o:=blOb B E) rfl) (by rw [Hn.out];exact hp);go_wp2_with (at_builtin;(refine wpList_rowM (t:=86) (e:=34) (size:=1) (bytes:=24) (i:=i1) S21.out 1 rfl (by rfl) (.tmp 71) (.tmp 72) (by rfl) Tryz.underlying86 gi gz0 gz1 gz2 rfl (by have:=HTE.out;omega) (by rfl) B en en (E.flatMap encB) (by rfl) hfl hsr (encB_all E) (by have:=HTE.out;unfold maxLen;omega) (by have:=HTE.out;omega) ?_);refine halt_ ?_)
  intro v22 w22 s22;obtain ⟨A2,c2,rfl⟩:=own_slI (s22.get 1 rfl);obtain ⟨T2,HT2⟩:∃ T2,Hid (T++E=T2):=⟨_,rfl⟩;have HT2L:Hid (T2.length=T.length+en):=by rw [Hid, <- HT2.out,zC,Hn.out]
  have HT2Q:Hid (T2.map (·.bs)=onceQ hb (ts++[tb])):=by rw [Hid, <- HT2.out,List.map_append,onceQ_snoc,HX.out.2.2.2.2.1,HEC.out,HCT.out]
  have HT2B:Hid (∀ e∈T2,e.bs.length<=1000000):=fun e he=>by
   rw [<- HT2.out] at he;rcases List.mem_append.1 he with he | he
   · have h1:e.bs∈onceQ hb ts:=by rw [<- HX.out.2.2.2.2.1];exact List.mem_map.2 ⟨e,he,rfl⟩
     have:=HX.out.2.2.2.2.2.2.2.hi _ h1;omega
   have:=(HEL.out e he).2;omega
  have hfm:T.flatMap encB++E.flatMap encB=T2.flatMap encB:=by rw [<- HT2.out,List.flatMap_append]
  have HRL:Hid ((blR A2 T2).holds w22):=by
   have h1:=(RowV.of_own (s22.get 1 (o:=rowOb 34 1 (.slice A2 (T.length+en) c2) (T.length+en) (T.flatMap encB++E.flatMap encB)) rfl)).1;have h2:∀ e∈T,RB w22 e.d e.bs:=s22.get 2 (o:=bsOb T) rfl;have h3:(blOb B E).holds w22:=s22.get 4 (o:=blOb B E) rfl;rw [hfm, <- HT2L.out] at h1;refine ⟨h1,fun e he=>?_⟩;rw [<- HT2.out] at he;rcases List.mem_append.1 he with he | he
   · exact ⟨(h2 e he).rs,(h2 e he).1⟩
   exact ⟨(h3.2 e he).rs,(h3.2 e he).1⟩
  have HDI:=hid (Distinct_R HRL.out c2 (by have:=HT2L.out;have:=HTE.out;omega) HT2B.out);rw [hfm, <- HT2L.out] at s22;have e22:T.length+en=T2.length:=HT2L.out.symm;have S22:=hid s22;rw [e22];clear s22 S21 hfl hsr m1 HRL HT2B hfm e22;go_wp2_with (go_at_call 57;(with_reducible refine HDI.out.mono ?_);refine halt_ ?_)
  rintro e2 w23 ⟨vd,rfl,hvd,hb23⟩;have HVD:=hid hvd;have S23:=hid (S22.out.on hb23);clear hvd hb23 HDI S22;cases vd with
  | false=>
   go_wp2_with fail
   go_ret;exact ⟨rfl,S23.out.2⟩
  | true=>
   have HTS:Hid (∀ t∈ts++[tb],t.length<=11/\∀ y∈t,y.toNat<4):=fun t ht=>by
    rcases List.mem_append.1 ht with ht | ht
    · exact HX.out.2.2.2.2.2.2.1 t ht
    rw [List.mem_singleton.1 ht];exact ⟨by omega,HT4.out⟩
   have hdi:=distB_inj (HVD.out rfl);rw [HT2Q.out] at hdi;have HQ:Hid (TS (onceQ hb (ts++[tb]))):=TS.once hbl (by rw [zC,zH];omega) (fun t ht=>(HTS.out t ht).1) H4.out (fun t ht=>(HTS.out t ht).2) hdi
   have HEQ:Hid (∀ e∈E,e.bs∈onceQ hb (ts++[tb])):=fun e he=>by
    rw [onceQ_snoc,HCT.out, <- HEC.out];exact List.mem_append_right _ (List.mem_map.2 ⟨e,he,rfl⟩)
   obtain ⟨P0,HP0⟩:∃ P0,Hid (onceQ hb ts=P0):=⟨_,rfl⟩;obtain ⟨PC,HPC⟩:∃ PC,Hid (cutsF c6 ct=PC):=⟨_,rfl⟩;obtain ⟨Q,HQe⟩:∃ Q,Hid (onceQ hb (ts++[tb])=Q):=⟨_,rfl⟩;have HPQ:Hid (Q=P0++PC):=by rw [Hid, <- HQe.out, <- HP0.out, <- HPC.out,onceQ_snoc,HCT.out]
   have HCL:Hid (PC.length=en):=by rw [Hid, <- HPC.out, <- HEC.out,zG,Hn.out]
   rw [HQe.out] at HQ HEQ HT2Q;rw [HPC.out] at HEC;have S24:Hid (SW w.heap.size w (rowOb 31 2 (.slice LA all.length lc) all.length (all.flatMap encID)::x.obs (cellOb gM 89 #[.int .i64 (ct.length:Int),.slice va en vc]::rowOb 34 1 (.slice A2 T2.length c2) T2.length (T2.flatMap encB)::bsOb T::riOb va ids::blOb B E::bsOb [⟨hd,hb⟩]::cellOb g6 85 #[.int .i64 2,.int .i64 6,.int .i64 1,.int .u64 1]::tpOb tg A cap L (n+1+q)::l)) w23):=SW.front (pre:=[_,_,_,_,_,_,_,_,_,_,_,_,_]) S23.out [8,9,10,11,12,0,1,2,3,4,5,6,7] (n:=13) rfl (by decide)
   have HXA:Hid (Cl [fileN nmS] x/\TQ Q x (P0++PC.take 0)/\x.ps=ps/\x.F=none/\AllI all (P0++PC.take 0)):=by
    rw [List.take_zero,List.append_nil, <- HP0.out];exact ⟨HX.out.1,HX.out.2.1.widen (fun t ht=>by rw [HPQ.out, <- HP0.out];exact List.mem_append_left _ ht),HX.out.2.2.1,HX.out.2.2.2.1,HX.out.2.2.2.2.2.1⟩
   clear S23 hdi HVD HX HTE;go_wp2_with fail
   rename World=>wy;go_loopw [7,9,15] (fun s7 s9 s15 wr=>∃ (j:Nat) (x:SR) (all:List ID) (LA:Option Addr) (lc:Nat),j<=en/\s15= .int .i64 (j:Int)/\s7= .slice LA all.length lc/\s9= .int .i64 (sumI all)/\Hid (Cl [fileN nmS] x/\TQ Q x (P0++PC.take j)/\x.ps=ps/\x.F=none/\AllI all (P0++PC.take j))/\SW w.heap.size w (rowOb 31 2 (.slice LA all.length lc) all.length (all.flatMap encID)::x.obs (cellOb gM 89 #[.int .i64 (ct.length:Int),.slice va en vc]::rowOb 34 1 (.slice A2 T2.length c2) T2.length (T2.flatMap encB)::bsOb T::riOb va ids::blOb B E::bsOb [⟨hd,hb⟩]::cellOb g6 85 #[.int .i64 2,.int .i64 6,.int .i64 1,.int .u64 1]::tpOb tg A cap L (n+1+q)::l)) wr) (fun _ _ s15 _=>en-(intOf s15).toNat)
   case atStart=>exact ⟨0,x,all,LA,lc,Nat.zero_le _,rfl,rfl,rfl,HXA.out,S24.out⟩
   clear HXA S24;rename World=>wv;obtain ⟨j,x,all,LA,lc,hj,rfl,rfl,rfl,HX,hs⟩:=hrel;have S25:=hid hs;clear hs;have HXP:Hid (x.ps=ps):=HX.out.2.2.1;by_cases hlt:j<en
   · have hltE:j<E.length:=by rw [Hn.out];exact hlt
     have hltI:j<ids.length:=by rw [hil];exact hlt
     obtain ⟨e,HE⟩:∃ e,Hid (E.getD j bs0=e):=⟨_,rfl⟩;have HEM:Hid (e∈E):=by rw [Hid, <- HE.out];exact getD_mem _ _ _ hltE
     obtain ⟨i,HI⟩:∃ i,Hid (fpOf e.bs=i):=⟨_,rfl⟩;have HIK:Hid (ids.getD j id0=i):=by rw [Hid, <- HID.out,idS_at hltE HE.out,HI.out]
     have HTK:Hid (P0++PC.take (j+1)=(P0++PC.take j)++[e.bs]):=by
      have h1:j<PC.length:=by rw [HCL.out];exact hlt
      have h2:PC.getD j []=e.bs:=by
       rw [<- HEC.out, <- HE.out,zB,zB,List.getElem?_map,List.getElem?_eq_getElem hltE];rfl
      rw [Hid,take_snoc _ [] _ h1,h2,List.append_assoc]
     obtain ⟨gI,hva,a0,a1⟩:=S25.out.rowCell (A:=va) (ids:=ids) (by simp [SR.obs]) hltI HIK.out;have HVA:=hid hva
     have HCE:Hid (∀ (W:World) (M:List Ob),SW w.heap.size w M W->riOb va ids∈M->W.cell? ⟨gI,j*2,none⟩=some (.int .u64 i.1)/\W.cell? ⟨gI,j*2+1,none⟩=some (.int .i64 i.2)):=fun W M hS h1=>by
      obtain ⟨gI',e1,b0,b1⟩:=hS.rowCell (A:=va) (ids:=ids) h1 hltI HIK.out;rw [HVA.out] at e1;injection e1 with e1;injection e1 with e1;rw [e1];exact ⟨b0,b1⟩
     obtain ⟨gE,hB,_,a2,a3⟩:=blOb_at (S25.out.1.holds (blOb B E) (by simp [SR.obs])) hltE HE.out;rw [<- a3.1] at a2;have HBB:=hid hB;have S26:Hid (SW w.heap.size w (x.obs (rowOb 31 2 (.slice LA all.length lc) all.length (all.flatMap encID)::cellOb gM 89 #[.int .i64 (ct.length:Int),.slice va en vc]::rowOb 34 1 (.slice A2 T2.length c2) T2.length (T2.flatMap encB)::bsOb T::riOb va ids::blOb B E::bsOb [⟨hd,hb⟩]::cellOb g6 85 #[.int .i64 2,.int .i64 6,.int .i64 1,.int .u64 1]::tpOb tg A cap L (n+1+q)::l)) wv):=SW.front (pre:=[_,_,_,_,_]) S25.out [1,2,3,4,0] (n:=5) rfl (by decide);have HPU:=hid (Put_Q S26.out HX.out.1 HQ.out HX.out.2.1 e.d.A e.d.cap e.bs a3.rs (HEQ.out e HEM.out));have HNF:=hid (fun (x2:SR) (h:x2.F=x.F)=>h.trans HX.out.2.2.2.1);rw [HXP.out] at HPU;rw [hB];have hji:(j:Int)<(en:Int):=by omega
     clear hva hB a0 a1 a3 S25;go_wp2_with (go_at_call 23;(with_reducible refine HPU.out.mono ?_);refine halt_ ?_)
     rintro e2 w26 ⟨rfl,x2,s26,hc26,ht26,hp26,hd26,hn26,hF26,hs26,hl26⟩;have HX2:Hid (Cl [fileN nmS] x2/\TQ Q x2 (P0++PC.take (j+1))/\x2.ps=ps/\x2.F=none):=⟨hc26,by rw [HTK.out];exact ht26,hp26.trans HXP.out,HNF.out x2 hF26⟩
     have HAL:Hid (AllI (addI all i) (P0++PC.take (j+1))):=by
      rw [Hid,HTK.out, <- HI.out];exact HX.out.2.2.2.2.add e.bs
     have hfew:=HX.out.2.2.2.2.few HQ.out HX.out.2.1.text;rw [HI.out];have S27:Hid (SW w.heap.size w (rowOb 31 2 (.slice LA all.length lc) all.length (all.flatMap encID)::x2.obs (cellOb gM 89 #[.int .i64 (ct.length:Int),.slice va en vc]::rowOb 34 1 (.slice A2 T2.length c2) T2.length (T2.flatMap encB)::bsOb T::riOb va ids::blOb B E::bsOb [⟨hd,hb⟩]::cellOb g6 85 #[.int .i64 2,.int .i64 6,.int .i64 1,.int .u64 1]::tpOb tg A cap L (n+1+q)::l)) (w26.alloc (.cells #[.int .u64 i.1,.int .i64 i.2] 31))):=(SW.front (pre:=[_,_,_,_,_]) s26 [4,0,1,2,3] (n:=5) rfl (by decide)).alloc _;have HIO:Hid (i.2=(e.bs.length:Int)):=by rw [<- HI.out];rfl
     have hel:=HEL.out e HEM.out;clear s26 hc26 ht26 hp26 hd26 hn26 hF26 hs26 hl26 HPU S26 HX HXP HNF a2;go_upto_region 23 with fail
     generalize w26.alloc _=W26 at S27 |-; generalize w26.heap.size=g16;have m1:W26.cell? ⟨gM,1,none⟩=some (.slice va en vc):=(S27.out.cell 5 rfl).cell 1;obtain ⟨a0,a1⟩:=HCE.out _ _ S27.out (by simp [SR.obs]);rw [HVA.out] at m1;have HRI:Hid (RdID W26 W26.heap.size LA all):=rdID_of ((SW.rowRi S27.out).get 0 (o:=riOb LA all) rfl);have HHS:=hid (rHas_any W26.heap.size all LA lc i.1 i.2 W26 HRI.out (by omega));have hie:decide ((i.1,i.2)∈all)=decide (i∈all):=rfl;rw [hie] at HHS;obtain ⟨vh,HVH⟩:∃ vh,Hid (decide (i∈all)=vh):=⟨_,rfl⟩;rw [HVH.out] at HHS;clear hie;go_wp2_with (go_at_call 49;(with_reducible refine HHS.out.mono ?_);refine halt_ ?_)
     rintro e2 w27 ⟨rfl,hb27⟩;have S28:=hid (S27.out.on hb27);clear hb27 HHS S27 m1 a0 a1 HRI;cases vh with
     | true=>
      have hm:i∈all:=of_decide_eq_true HVH.out;have hadd:addI all i=all:=if_pos hm;rw [hadd] at HAL;clear hadd hm;go_wp2_with fail
      go_roundw
      case rel=>exact ⟨j+1,x2,all,LA,lc,by omega,by go_num,rfl,rfl,⟨HX2.out.1,HX2.out.2.1,HX2.out.2.2.1,HX2.out.2.2.2,HAL.out⟩,by rw [<- HBB.out];exact S28.out⟩
      simp [intOf];omega
     | false=>
      have hm:i ∉ all:=of_decide_eq_false HVH.out;have hadd:addI all i=all++[i]:=if_neg hm;rw [hadd] at HAL;have m1:w27.cell? ⟨gM,1,none⟩=some (.slice va en vc):=(S28.out.cell 5 rfl).cell 1;obtain ⟨a0,a1⟩:=HCE.out _ _ S28.out (by simp [SR.obs]);rw [HVA.out] at m1;have hws:IntKind.i64.wrap (sumI all+i.2)=sumI all+i.2:=IntWalk.i64_in _ (by have:=HIO.out;omega);clear hadd hm;go_wp2_with (at_builtin;(refine wpList_rowS (t:=38) (e:=31) (size:=2) (bytes:=16) (i:=j1) (S28.out.alloc _) 0 rfl (by rfl) (.tmp 102) (.tmp 108) (by rfl) Tryz.underlying38 gj gy0 gy1 gy2 rfl (by omega) (by rfl) ⟨w27.heap.size,0,none⟩ 1 [.int .u64 i.1,.int .i64 i.2] (by rfl) rfl (two_new w27 _ _ 31 _ rfl) (encID_one i) (by unfold maxLen;omega) (by omega) ?_);refine halt_ ?_)
      intro v28 w28 s28;obtain ⟨g28,c28,rfl⟩:=own_some (s28.get 0 rfl) (by omega);obtain ⟨al2,HA2⟩:∃ al2,Hid (all++[i]=al2):=⟨_,rfl⟩
      have S29:Hid (SW w.heap.size w (rowOb 31 2 (.slice (some ⟨g28,0,none⟩) al2.length c28) al2.length (al2.flatMap encID)::x2.obs (cellOb gM 89 #[.int .i64 (ct.length:Int),.slice va en vc]::rowOb 34 1 (.slice A2 T2.length c2) T2.length (T2.flatMap encB)::bsOb T::riOb va ids::blOb B E::bsOb [⟨hd,hb⟩]::cellOb g6 85 #[.int .i64 2,.int .i64 6,.int .i64 1,.int .u64 1]::tpOb tg A cap L (n+1+q)::l)) w28):=by
       rw [Hid, <- HA2.out,List.flatMap_append,zC];exact s28
      have hal:all.length+1=al2.length:=by rw [<- HA2.out,zC];rfl
      have HSU:Hid (sumI all+i.2=sumI al2):=by rw [Hid, <- HA2.out,sumI_snoc]
      rw [HA2.out] at HAL;rw [hal];have m1:w28.cell? ⟨gM,1,none⟩=some (.slice va en vc):=(S29.out.cell 5 rfl).cell 1;obtain ⟨a0,a1⟩:=HCE.out _ _ S29.out (by simp [SR.obs]);rw [HVA.out] at m1;clear s28 S28 hal;go_wp2_with fail
      go_roundw
      case rel=>exact ⟨j+1,x2,al2,some ⟨g28,0,none⟩,c28,by omega,by go_num,rfl,by rw [HSU.out],⟨HX2.out.1,HX2.out.2.1,HX2.out.2.2.1,HX2.out.2.2.2,HAL.out⟩,by rw [<- HBB.out];exact S29.out⟩
      simp [intOf];omega
   obtain rfl:en=j:=by omega
   have hft:PC.take en=PC:=List.take_of_length_le (by rw [HCL.out];exact Nat.le_refl _);rw [hft, <- HPQ.out, <- HQe.out] at HX;rw [<- HQe.out] at HQ HT2Q
   have S26:Hid (SW w.heap.size w (rowOb 34 1 (.slice A2 T2.length c2) T2.length (T2.flatMap encB)::bsOb T2::rowOb 31 2 (.slice LA all.length lc) all.length (all.flatMap encID)::x.obs (bsOb [⟨hd,hb⟩]::cellOb g6 85 #[.int .i64 2,.int .i64 6,.int .i64 1,.int .u64 1]::tpOb tg A cap L (n+1+q)::l)) wv):=by
    have h1:=SW.few (pre:=[_,_,_,_,_,_,_,_,_,_,_,_,_]) S25.out [9,7,6,0,1,2,3,4,10,11,12] (n:=13) rfl (by decide) (by decide);have h2:=SW.blBs h1;rw [HT2.out] at h2;exact SW.front (pre:=[_,_]) h2 [1,0] (n:=2) rfl (by decide)
   clear S25 hft;go_wp2_with fail
   go_roundw
   case rel=>exact ⟨k,n+1+q,x,ts++[tb],T2,A2,c2,all,LA,lc,by go_num,rfl,rfl,rfl,by rw [zC,zH];omega,by omega,⟨HX.out.1,HX.out.2.1,HX.out.2.2.1,HX.out.2.2.2.1,HT2Q.out,HX.out.2.2.2.2,HTS.out,HQ.out⟩,S26.out⟩
   simp [intOf]
 | zero=>
  obtain ⟨h1,h2,h3⟩:=HX.out.2.2.2.2.2.1.store HX.out.1 HX.out.2.1 HX.out.2.2.2.1;have h4:=(HX.out.2.2.2.2.2.1.few HX.out.2.2.2.2.2.2.2 HX.out.2.1.text).1;have S11:Hid (SW w.heap.size w (x.obs (rowOb 34 1 (.slice PA T.length pc) T.length (T.flatMap encB)::bsOb T::rowOb 31 2 (.slice LA all.length lc) all.length (all.flatMap encID)::bsOb [⟨hd,hb⟩]::cellOb g6 85 #[.int .i64 2,.int .i64 6,.int .i64 1,.int .u64 1]::tpOb tg A cap L n::l)) wr):=SW.front (pre:=[_,_,_,_,_,_,_]) S10.out [3,4,5,6,0,1,2] (n:=7) rfl (by decide);have HB:=hid (Bytes_L S11.out (sumI all) h1);have HP:=hid (Pending_L S11.out (all.length:Int) h2);have HI:=hid (IDs_S (x:=x) S11.out (by omega));rw [HX.out.2.2.1] at HB HP HI;obtain ⟨an,HAN⟩:∃ an,Hid (all.length=an):=⟨_,rfl⟩;rw [HAN.out] at HP h3 |-; clear S10 h1 h2 h4 HX;go_wp2_with (go_at_call 26;(with_reducible refine HB.out.mono ?_);refine halt_ ?_)
  rintro e2 w20 ⟨rfl,rfl⟩;go_wp2_with (go_at_call 29;(with_reducible refine HP.out.mono ?_);refine halt_ ?_)
  rintro e2 w21 ⟨rfl,rfl⟩;go_wp2_with (go_at_call 28;(with_reducible refine HI.out.mono ?_);refine halt_ ?_)
  rintro e2 w22 ⟨IA,ic,iy,rfl,hpi,hsi,s22⟩
  have hyl:iy.length=an:=by
   have:=hpi.length_eq;rw [zG] at this;omega
  rw [hyl];have S12:=hid s22;clear hpi hsi s22 hyl;go_wp2_with fail
  go_ret;exact ⟨rfl,S12.out.2⟩
end
end
end Go.Proofs.YteabgcollokgjaaGreatDoor
