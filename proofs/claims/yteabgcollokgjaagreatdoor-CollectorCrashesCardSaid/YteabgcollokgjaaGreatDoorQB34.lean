/- Q -/
import Derived.Test.YteabgcollokgjaaGreatDoorQB33
import Derived.Deep.RegionWith
set_option linter.unusedSimpArgs false
set_option linter.unusedVariables false
set_option maxRecDepth 100000
set_option maxHeartbeats 32000000
open Go.Lib (hid)
open List renaming mem_cons_of_mem → zA,getD_eq_getElem?_getD → zB,length_take → zC,take_of_length_le → zD,getElem?_eq_getElem → zE,getElem?_cons_succ → zF,length_filter_le → zG
namespace Go.Proofs.YteabgcollokgjaaGreatDoor
section
open Go.RowKit Go.MapKept Go.ChangeMaps Go.Shelf Go.Sort
section
variable {b:Nat} {w0 w:World} {l:List Ob} {c:CR}
abbrev pFree:Ses->Bool:=fun s=> !s.beg
abbrev CR.bg (c:CR) (f:Nat) (N:Int):CR:=(c.put f { c.ss f with num:=N }).put f { (c.put f { c.ss f with num:=N }).ss f with beg:=true }
abbrev CR.begun (c:CR) (f:Nat) (N:Int) (m:Nat):CR:=(c.bg f N).put f { (c.bg f N).ss f with hm:=some m,H:=[] }
theorem Begin_new (h:SW b w0 (coOb c::l) w) (N:Int) (hN:0<=N) (f:Nat) (ho:fiO pFree c.se=some f) (hg:fiO (pNum N) c.se=none):
 Calls Tryz.prog 71 #[vPtr c.cp,.int .i64 N] w (fun e w'=>e= .returned (.int .i64 0)/\∃ m,SW b w0 (coOb (c.begun f N m)::l) w'):=by
 have H:=hid h;have HF:=hid (index123 (h.get 0 (o:=coOb c) rfl));have hv:fiV pFree c.se=(f:Int):=by unfold fiV;rw [ho]
 have hf:f<16:=by rw [<- h.coLen];exact (fiO_lt ho).1
 rw [hv] at HF;have HG:=hid (fun (w1:World) (s1:SW b w0 (coOb c::l) w1)=>find_any (s1.get 0 (o:=coOb c) rfl) N);have hv2:fiV (pNum N) c.se= -1:=by unfold fiV;rw [hg]
 rw [hv2] at HG;have hN':decide (N<0)=false:=decide_eq_false (by omega);have hd2:decide (((f:Nat):Int)<0)=false:=decide_eq_false (by omega);clear h ho hv hg hv2;go_enter Tryz.func71,Tryz.ntmps71;go_wp2_with (go_at_call 122;(with_reducible refine HF.out.mono ?_);rintro e w1 ⟨rfl,hb1⟩;have S1:=hid (H.out.on hb1);clear hb1)
 go_wp2_with (go_at_call 119;(with_reducible refine (HG.out _ S1.out).mono ?_);rintro e w2 ⟨rfl,hb2⟩;have S2:=hid (S1.out.on hb2);clear hb2)
 have hh:=S2.out.get 0 (o:=coOb c) rfl;obtain ⟨a0,a1,a2⟩:=CR.ses hh hf;have z0:w2.frozen? ⟨c.cp,2+f*3,none⟩=false:=hh.1.frozen _;have z1:w2.frozen? ⟨c.cp,2+f*3+1,none⟩=false:=hh.1.frozen _;clear hh;go_region
 have S3:Hid (SW b w0 (coOb (c.bg f N)::l) _):=hid (((S2.out.coNum hf N).coBeg hf true).drew);clear a0 a1 a2 z0 z1;generalize World.drew _=W at S3 |-; have S4:Hid (SW b w0 (mpOb okID vID vU W.heap.size ([]:HL)::coOb (c.bg f N)::l) (W.alloc (.map #[] 0))):=S3.out.addMp;have hh:=S4.out.get 1 (o:=coOb (c.bg f N)) rfl;obtain ⟨v,a2⟩:∃ v,(W.alloc (.map #[] 0)).cell? ⟨c.cp,2+f*3+2,none⟩=some v:=⟨_,(CR.ses hh hf).2.2⟩;have z2:(W.alloc (.map #[] 0)).frozen? ⟨c.cp,2+f*3+2,none⟩=false:=hh.1.frozen _;clear hh;have hmk:(Instr.makeMap 178 none).run Tryz.prog W= .ok (.map (some W.heap.size)) (W.alloc (.map #[] 0)):=rfl;go_wp2_with fail
 go_ret;exact ⟨rfl,_,S4.out.coMap hf⟩
end
section
variable {b:Nat} {w0 w:World} {l:List Ob} {c:CR}
theorem Left_any (h:SW b w0 (coOb c::l) w):Calls Tryz.prog 63 #[vPtr c.cp] w (fun e w'=>e= .returned (.int .i64 (c.cand.length:Int))/\SW b w0 (coOb c::l) w'):=by
 have H:=hid h;have k1:=CR.cell1 (h.get 0 (o:=coOb c) rfl);clear h;go_enter Tryz.func63,Tryz.ntmps63;go_wp2_with fail
 go_ret;exact ⟨rfl,H.out⟩
abbrev HasC (b:Nat) (w0:World) (c:CR) (l:List Ob) (i:ID) (v:Bool):Prop:=∀ w',SW b w0 (coOb c::l) w'->Calls Tryz.prog 46 #[vPtr c.ps,.agg #[.int .u64 i.1,.int .i64 i.2]] w' (fun e w''=>e= .returned (.bool v)/\Below w'.heap.size w' w'')
end
section
variable {b:Nat} {w0 w:World} {l:List Ob} {c:CR}
theorem Touch_held (h:SW b w0 (coOb c::l) w) (N:Int) (f:Nat) (ho:fiO (pNum N) c.se=some f) (m:Nat) (hm:(c.ss f).hm=some m) (i:ID) (hi:okID i) (HH:HasC b w0 c l i true):
 Calls Tryz.prog 73 #[vPtr c.cp,.int .i64 N,.agg #[.int .u64 i.1,.int .i64 i.2]] w (fun e w'=>e= .returned (.tuple #[.bool true,.int .i64 0])/\SW b w0 (coOb (c.put f { c.ss f with H:=setL (c.ss f).H i () })::l) w'):=by
 have H:=hid (h.newCell 31 #[.int .u64 i.1,.int .i64 i.2]);have HF:=hid (find_any (H.out.get 1 (o:=coOb c) rfl) N);have hv:fiV (pNum N) c.se=(f:Int):=by unfold fiV;rw [ho]
 have hf:f<16:=by rw [<- h.coLen];exact (fiO_lt ho).1
 rw [hv] at HF;have HH:=hid HH;have HM:=hid hm;have HI:=hid hi;clear h ho hv hm hi;go_enter Tryz.func73,Tryz.ntmps73;go_wp2_with (go_at_call 119;(with_reducible refine HF.out.mono ?_);rintro e w1 ⟨rfl,hb1⟩;have S1:=hid (H.out.on hb1);clear hb1)
 have k0:=CR.cell0 (S1.out.get 1 (o:=coOb c) rfl);have d0:=(S1.out.cell 0 rfl).cell 0;have d1:=(S1.out.cell 0 rfl).cell 1;go_region_with (go_at_call 46;(with_reducible refine (HH.out _ S1.out.drew.tail).mono ?_);rintro e w2 ⟨rfl,hb2⟩;have S2:=hid (S1.out.drew.on hb2);clear hb2)
 all_goals
  have S3:=hid S2.out.drew;have hh:=S3.out.get 1 (o:=coOb c) rfl;obtain ⟨a0,a1,a2⟩:=CR.ses hh hf;rw [HM.out] at a2;have c0:=(S3.out.cell 0 rfl).cell 0;have c1:=(S3.out.cell 0 rfl).cell 1;obtain ⟨w4,hu,hm4,hg4,hz4⟩:=MapIs.update mkI Tryz.underlying178 (hh.2.2.map _ (ses_at (se:=c.se) (f:=f) (by rw [hh.2.2.len];exact hf)) m HM.out) HI.out ();have hu':(Instr.mapUpdate 178 (.map (some m)) (.agg #[.int .u64 i.1,.int .i64 i.2]) (.agg #[])).run Tryz.prog w2.drew= .ok () w4:=hu;have S4:=hid (S3.out.tail.coUpd hf HM.out hm4 hg4);clear hu hm4 hg4 hh;have hfi:((f:Nat):Int)<16:=by omega
  go_upto_region 6 with fail
  go_region
 all_goals (go_wp2_with fail;go_ret2;exact ⟨rfl,S4.out⟩)
end
section
variable {b:Nat} {w0 w:World} {l l':List Ob} {c:CR}
theorem run_load181 (h:(coOb c).holds w):(Instr.loadAt 181 (.pointer (some ⟨c.cp,2,none⟩))).run Tryz.prog w= .ok (.agg (c.se.flatMap Ses.cs).toArray) w:=by
 have hl:(c.se.flatMap Ses.cs).length=48:=by rw [ses_len,h.2.2.len]
 have hc:=run_loadCells_list (P:=Tryz.prog) w ⟨c.cp,2,none⟩ (c.se.flatMap Ses.cs) (fun j v hj=>by
  have:=h.1.cell (2+j);rw [Addr.add_lit];rw [this];show (Value.pointer (some ⟨c.ps,0,none⟩)::Value.slice c.A c.cand.length c.cap::c.se.flatMap Ses.cs).toArray[2+j]? =some v;rw [List.getElem?_toArray,show 2+j=j+1+1 by omega,zF,zF];exact hj)
 rw [hl] at hc;simp [Instr.loadAt,Instr.sureAddr,loadVar,isAgg,run_underlying Tryz.underlying181,Tryz.sizeOf181,hc]
theorem ses_extract (se:List Ses) (k:Nat) (hk:k<se.length):(se.flatMap Ses.cs).toArray.extract (k*3) (k*3+3)= #[.int .i64 (se.getD k ses0).num,.bool (se.getD k ses0).beg,.map (se.getD k ses0).hm]:=by
 have hl:=ses_len se;apply Array.ext_getElem?
 intro j;by_cases hj:j<3
 · rw [Array.getElem?_extract,if_pos (by simp only [List.size_toArray];omega),List.getElem?_toArray,ses_get se k j hk hj];match j,hj with
   | 0,_=>rfl
   | 1,_=>rfl
   | 2,_=>rfl
 rw [Array.getElem?_eq_none (by simp only [Array.size_extract,List.size_toArray];omega),Array.getElem?_eq_none (by simp;omega)]
theorem run_index181 (se:List Ses) (hl:se.length=16) (k:Nat) (hk:k<16) (w:World):(Instr.index 181 (.agg (se.flatMap Ses.cs).toArray) (.int .i64 (k:Int))).run Tryz.prog w= .ok (.agg #[.int .i64 (se.getD k ses0).num,.bool (se.getD k ses0).beg,.map (se.getD k ses0).hm]) w:=by
 have h1:(0:Int)<=(k:Int)/\(k:Int)<16:=⟨by omega,by omega⟩;have e:=ses_extract se k (by omega);generalize (se.flatMap Ses.cs).toArray=cs at e |-; rw [<- e];simp [Instr.index,asIntOf,part,isAgg,run_underlying Tryz.underlying181,run_underlying Tryz.underlying180,Tryz.sizeOf180,h1,hk]
theorem wpList_load181 {w:World} {ops:Array Oper} {rest:List Oper} {o:Oper} {a:Act} {Q:Exit->Act->World->Prop} (hg:o.guard=none) (x:Operand) (hop:o.op=Op.load 181 x) (hx:a.eval x= .pointer (some ⟨c.cp,2,none⟩)) (hh:(coOb c).holds w)
 (h:wpList Tryz.prog ops Q rest (a.put o.dst (.agg (c.se.flatMap Ses.cs).toArray)) w):wpList Tryz.prog ops Q (o::rest) a w:=by
 refine wpList_plain hg fun K hK'=>?_;have hrun:=run_load181 hh;unfold Oper.wp;simp [execOp,hop,hx,hrun,Result.andThen];exact hK' _ _ h
end
section
variable {b:Nat} {w0 w:World} {l l':List Ob} {c:CR}
theorem look_hm {s:Ses} (hs:s∈c.se) (h:(coOb c).holds w) {i:ID} (hi:okID i):(Instr.lookup 178 (.map s.hm) (.agg #[.int .u64 i.1,.int .i64 i.2]) true).run Tryz.prog w= .ok (.tuple #[.agg #[],.bool (asc s.H i).isSome]) w:=by
 cases e:s.hm with
 | none=>
  have:s.H=[]:=h.2.2.nomap s hs e;rw [this];have z:(zeroValue 170).run Tryz.prog w= .ok (.agg #[]) w:=by kernel_rfl
  have hf:(Instr.findKey 31 (.agg #[.int .u64 i.1,.int .i64 i.2]) []).run Tryz.prog w= .ok none w:=run_findKey Tryz.underlying31 rfl;have hck:(Instr.checkKey true 10000 31 (.agg #[.int .u64 i.1,.int .i64 i.2])).run Tryz.prog w= .ok () w:=mkI.K.check w _ (keyOf31 i hi);simp [Instr.lookup,run_underlying Tryz.underlying178,hf,hck,z,asc,Result.andThen]
 | some m=>exact look_u (h.2.2.map s hs m e) hi
abbrev heldC (c:CR) (i:ID):Bool:=c.se.any fun s=>(asc s.H i).isSome
theorem held_any (h:SW b w0 (coOb c::l) w) (i:ID) (hi:okID i):
 Calls Tryz.prog 111 #[vPtr c.cp,.agg #[.int .u64 i.1,.int .i64 i.2]] w (fun e w'=>e= .returned (.bool (heldC c i))/\SW b w0 (coOb c::l) w'):=by
 have H:=hid (h.newCell 31 #[.int .u64 i.1,.int .i64 i.2]);have HI:=hid hi;have hlen:=h.coLen;have HH:=hid (H.out.get 1 (o:=coOb c) rfl);clear h hi;go_enter Tryz.func111,Tryz.ntmps111;go_wp2_with (refine wpList_load181 rfl (.tmp 11) rfl rfl HH.out ?_)
 clear HH;generalize w.alloc (.cells #[.int .u64 i.1,.int .i64 i.2] 31)=wa at H |-; go_loopw [13] (fun s13 wr=>∃ k:Nat,k<=16/\s13= .int .i64 (k:Int)/\(∀ j,j<k->(asc (c.se.getD j ses0).H i).isSome=false)/\SW b w0 (cellOb w.heap.size 31 #[.int .u64 i.1,.int .i64 i.2]::coOb c::l) wr) (fun s13 _=>16-(intOf s13).toNat)
 case atStart=>exact ⟨0,by omega,rfl,fun j hj=>by omega,H.out⟩
 obtain ⟨k,hk,rfl,hb,hs⟩:=hrel;have HB:=hid hb;have S1:=hid hs;clear hb hs H;by_cases hlt:k<16
 · have hix:=run_index181 c.se hlen k hlt wr;have hmem:=ses_at (se:=c.se) (f:=k) (by omega);obtain ⟨s,hsk⟩:∃ s,c.se.getD k ses0=s:=⟨_,rfl⟩;rw [hsk] at hix hmem;have HSK:=hid hsk;have S2:=hid (S1.out.newCell 180 #[.int .i64 s.num,.bool s.beg,.map s.hm]);have hlk:=look_hm hmem (S2.out.get 2 (o:=coOb c) rfl) HI.out;have a2:=(S2.out.cell 0 rfl).cell 2;have d0:=(S2.out.cell 1 rfl).cell 0;have d1:=(S2.out.cell 1 rfl).cell 1;have HMEM:=hid hmem;clear hsk hmem;obtain ⟨v,hv⟩:∃ v,(asc s.H i).isSome=v:=⟨_,rfl⟩;rw [hv] at hlk;have HV:=hid hv;clear hv;cases v with
   | true=>
    go_wp2_with fail
    go_ret;refine ⟨?_,?_⟩
    · have e:heldC c i=true:=List.any_eq_true.2 ⟨s,HMEM.out,HV.out⟩;rw [e];rfl
    exact (S2.out.alloc _).tail.tail
   | false=>
    go_wp2_with fail
    go_roundw
    case rel=>
     refine ⟨k+1,by omega,by go_num,fun j hj=>?_,(S2.out.alloc _).tail⟩;by_cases e:j=k
     · subst e;rw [HSK.out];exact HV.out
     exact HB.out j (by omega)
    simp [intOf];omega
 obtain rfl:k=16:=by omega
 go_wp2_with fail
 go_ret;refine ⟨?_,S1.out.tail⟩
 have e:heldC c i=false:=by
  rw [Bool.eq_false_iff];intro h;obtain ⟨s,hs,hp⟩:=List.any_eq_true.1 h;obtain ⟨j,hj,rfl⟩:=List.getElem_of_mem hs;have:=HB.out j (by omega);rw [zB,zE hj] at this;have hp:(asc c.se[j].H i).isSome=true:=hp;have this:(asc c.se[j].H i).isSome=false:=this;rw [hp] at this;cases this
 rw [e];rfl
end
section
variable {b:Nat} {w0 w:World} {l:List Ob} {c:CR} {x:SR} {ns:List ByteArray}
def stF (c:CR) (n:Int) (P:List ID):List ID:=(P.filter fun i=> !heldC c i).take n.toNat
abbrev stepL (c:CR) (n:Int):List ID:=stF c n c.cand
theorem stF_snoc (c:CR) (n:Int) (P:List ID) (i:ID) (h:((stF c n P).length:Int)<n):stF c n (P++[i])=stF c n P++if heldC c i then [] else [i]:=by
 unfold stF at*
 have hl:(P.filter fun i=> !heldC c i).length<n.toNat:=by
  rw [zC] at h;omega
 rw [List.filter_append,zD (l:=P.filter fun i=> !heldC c i) (by omega)];cases hh:heldC c i with
 | true=>
  have:[i].filter (fun i=> !heldC c i)=[]:=by simp [hh]
  rw [this];simp only [List.append_nil,if_true];rw [zD (by omega)]
 | false=>
  have:[i].filter (fun i=> !heldC c i)=[i]:=by simp [hh]
  rw [this];simp only [Bool.false_eq_true,if_false];rw [zD (by simp;omega)]
theorem stF_full (c:CR) (n:Int) (k:Nat) (h:n<=((stF c n (c.cand.take k)).length:Int)):stF c n (c.cand.take k)=stepL c n:=by
 unfold stepL;conv=>rhs;rw [<- List.take_append_drop k c.cand]
 unfold stF at *; rw [List.filter_append];rw [zC] at h;rw [List.take_append_of_le_length (by omega)]
theorem stF_sub (c:CR) (n:Int) (P:List ID):∀ i∈stF c n P,i∈P:=fun i hi=>(List.mem_filter.1 (List.take_subset _ _ hi)).1
theorem Gone.nil (x:SR):Gone x [] x where
 val:=fun i=>by simp
 has:=fun i=>by simp
 nm:=rfl
 p:=rfl
 ps:=rfl
 len:=Nat.le_refl _
 cnt:=by simp [goneL]
 bytes:=by simp [goneL,sizeN]
 wt:=Int.le_refl _
 now:=fun _ _ _=>rfl
 lay:=fun h=>h
 pend:=fun _ _=>Iff.rfl
abbrev StepP (ns:List ByteArray) (b:Nat) (w0:World) (c:CR) (x:SR) (R:List ID) (l:List Ob) (e:Ending) (w':World):Prop:=
 ∃ A cap x',e= .returned (.tuple #[.slice A R.length cap,.int .i64 0])/\SW b w0 (riOb A R::coOb { c with cand:=lessL (setI R) c.cand }::x'.obs l) w'/\Cl ns x'/\Gone x R x'
theorem Step_of (h:SW b w0 (coOb c::x.obs l) w) (hps:c.ps=x.ps) (hx:Cl ns x) (n:Int) (hok:∀ i∈c.cand,okID i) (hl:c.cand.length<=100000) (R:List ID) (hR:stepL c n=R):
 Calls Tryz.prog 62 #[vPtr c.cp,.int .i64 n] w (StepP ns b w0 c x R l):=by
 have HR:=hid hR;have HRO:Hid (∀ i∈R,okID i):=fun i hi=>hok i (stF_sub c n _ i (by rw [<- hR] at hi;exact hi))
 have hRl:R.length<=100000:=by
  rw [<- hR];show (stF c n c.cand).length<=_;unfold stF;rw [zC];have:=zG (fun i=> !heldC c i) c.cand;omega
 obtain ⟨A0,HA0⟩:∃ A0,Hid (c.A=A0):=⟨_,rfl⟩;clear hR;have H:=hid h;have HOK:=hid hok;have HX:=hid hx;have HPS:=hid hps;obtain ⟨N,HN⟩:∃ N,Hid (c.cand.length=N):=⟨_,rfl⟩;have k1:=CR.cell1 (h.get 0 (o:=coOb c) rfl);rw [HN.out,HA0.out] at k1;rw [HN.out] at hl;clear h hok hx hps;go_enter Tryz.func62,Tryz.ntmps62;go_upto_block 0 with fail
 go_cut [6] from 33 (fun s6 w'=>∃ A cap,s6= .slice A R.length cap/\SW b w0 (rowOb 31 2 (.slice A R.length cap) R.length (R.flatMap encID)::coOb c::x.obs l) w')
 case first=>
  go_wp2_with fail
  go_loopw [6,16] (fun s6 s16 wr=>∃ (k:Nat) (A:Option Addr) (cap:Nat),k<=N/\s16= .int .i64 (k:Int)/\s6= .slice A (stF c n (c.cand.take k)).length cap/\SW b w0 (rowOb 31 2 (.slice A (stF c n (c.cand.take k)).length cap) (stF c n (c.cand.take k)).length ((stF c n (c.cand.take k)).flatMap encID)::coOb c::x.obs l) wr) (fun _ s16 _=>N-(intOf s16).toNat)
  case atStart=>
   refine ⟨0,none,0,Nat.zero_le _,rfl,?_,?_⟩
   · simp [stF]
   have:=H.out.newRow 31 2;simpa [stF] using this
  obtain ⟨k,A,cap,hk,rfl,rfl,hs⟩:=hrel;have S1:=hid hs;clear hs H k1;by_cases hlt:k<N
  · have hltc:k<c.cand.length:=by rw [HN.out];exact hlt
    obtain ⟨i,hik⟩:∃ i,c.cand.getD k id0=i:=⟨_,rfl⟩
    have hmm:i∈c.cand:=by
     rw [<- hik,zB,zE hltc];exact List.getElem_mem hltc
    have hoki:=HOK.out i hmm
    have hts:c.cand.take (k+1)=c.cand.take k++[i]:=by
     rw [List.take_succ_eq_append_getElem hltc, <- hik,zB,zE hltc];rfl
    have HTS:=hid (stF_snoc c n (c.cand.take k) i);rw [<- hts] at HTS;have HFU:=hid (stF_full c n k);obtain ⟨F,HF⟩:∃ F,Hid (stF c n (c.cand.take k)=F):=⟨_,rfl⟩
    have hFk:F.length<=k:=by
     rw [<- HF.out];unfold stF;rw [zC];have:=zG (fun i=> !heldC c i) (c.cand.take k);rw [zC] at this;omega
    rw [HF.out] at S1 HTS HFU |-; have hhm:(coOb c).holds wr:=S1.out.get 1 (o:=coOb c) rfl
    obtain ⟨gA,hA,hrow,hgl⟩:∃ g,c.A=some ⟨g,0,none⟩/\RowI wr g c.cand/\g<wr.heap.size:=by
     obtain ⟨_,r2,r3⟩:=hhm.2.1;cases hcA:c.A with
     | none=>
      have:=r2 hcA;rw [this] at hltc;simp at hltc
     | some ad=>
      obtain ⟨g,rfl,h1,h2⟩:=r3 ad hcA;exact ⟨g,rfl,h1,h2⟩
    obtain rfl:A0=some ⟨gA,0,none⟩:=HA0.out.symm.trans hA;obtain ⟨a0,a1,_,_⟩:=hrow.cells hltc hik;have S2:=hid (S1.out.newCell 31 #[.int .u64 i.1,.int .i64 i.2]);have HHE:=hid (held_any (SW.front (pre:=[_,_,_]) (t:=x.obs l) S2.out [2,1,0] (n:=3) rfl (by decide)) i hoki);have c0:(wr.alloc (.cells #[.int .u64 i.1,.int .i64 i.2] 31)).cell? ⟨wr.heap.size,0,none⟩=some (.int .u64 i.1):=(S2.out.cell 0 rfl).cell 0;have c1:(wr.alloc (.cells #[.int .u64 i.1,.int .i64 i.2] 31)).cell? ⟨wr.heap.size,1,none⟩=some (.int .i64 i.2):=(S2.out.cell 0 rfl).cell 1;clear hhm hrow hik hmm hts hltc S1;by_cases hfull:n<=(F.length:Int)
    · have hd:decide ((F.length:Int)>=n)=true:=decide_eq_true hfull;have HE:Hid (F=R):=(HFU.out hfull).trans HR.out;clear HFU HTS;go_wp2_with fail
      go_meet;refine ⟨A,cap,?_,?_⟩
      · rw [HE.out]
      rw [<- HE.out];exact S2.out.tail
    have hd:decide ((F.length:Int)>=n)=false:=decide_eq_false (by omega);have HE:=hid (HTS.out (by omega));clear HFU HTS;go_wp2_with (go_at_call 111;(with_reducible refine HHE.out.mono ?_);refine halt_ ?_)
    rintro e w3 rfl s3;have S3:=hid (SW.front (pre:=[_,_,_]) (t:=x.obs l) s3 [2,1,0] (n:=3) rfl (by decide));clear s3 HHE S2 c0 c1;have c0:=(S3.out.cell 0 rfl).cell 0;have c1:=(S3.out.cell 0 rfl).cell 1;cases hhd:heldC c i with
    | true=>
     rw [hhd,if_pos rfl,List.append_nil] at HE;go_wp2_with fail
     go_roundw
     case rel=>
      refine ⟨k+1,A,cap,by omega,by go_num,?_,?_⟩
      · rw [HE.out]
      rw [HE.out];exact S3.out.tail
     simp [intOf];omega
    | false=>
     rw [hhd,if_neg (by decide)] at HE;obtain ⟨i1,gi,gz0,gz1,gz2⟩:=info_parts info31;go_wp2_with (at_builtin;(refine wpList_rowS (t:=38) (e:=31) (size:=2) (bytes:=16) (i:=i1) (S3.out.alloc _) 1 rfl (by rfl) (.tmp 28) (.tmp 30) (by rfl) Tryz.underlying38 gi gz0 gz1 gz2 rfl (by omega) (by rfl) ⟨w3.heap.size,0,none⟩ 1 [.int .u64 i.1,.int .i64 i.2] (by rfl) rfl (two_new w3 _ _ 31 _ rfl) (encID_one i) (by unfold maxLen;omega) (by omega) ?_);refine halt_ ?_)
     intro v4 w4 s4;obtain ⟨g4,c4,rfl⟩:=own_some (s4.get 1 rfl) (by omega)
     have S4:Hid (SW b w0 (rowOb 31 2 (.slice (some ⟨g4,0,none⟩) (F++[i]).length c4) (F++[i]).length ((F++[i]).flatMap encID)::coOb c::x.obs l) w4):=by
      rw [Hid,List.flatMap_append,List.length_append];exact s4.tail
     clear s4 S3 c0 c1;go_wp2_with fail
     go_roundw
     case rel=>
      refine ⟨k+1,some ⟨g4,0,none⟩,c4,by omega,by go_num,?_,?_⟩
      · rw [HE.out,List.length_append];rfl
      rw [HE.out];exact S4.out
     simp [intOf];omega
  obtain rfl:k=N:=by omega
  have hF:c.cand.take k=c.cand:=by rw [<- HN.out,List.take_length]
  have hFR:stF c n c.cand=R:=HR.out;rw [hF,hFR] at S1 |-; clear hFR hF;go_wp2_with fail
  go_meet;exact ⟨A,cap,rfl,S1.out⟩
 obtain ⟨A,cap,rfl,s⟩:=hcut;have S1:Hid (SW b w0 (coOb c::x.obs (riOb A R::l)) wc):=SW.front (pre:=[_,_,_,_,_,_]) (t:=l) s.rowRi [1,2,3,4,5,0] (n:=6) rfl (by decide);clear s k1 H;obtain ⟨r,hr⟩:∃ r,R.length=r:=⟨_,rfl⟩;cases r with
 | zero=>
  obtain rfl:R=[]:=List.eq_nil_of_length_eq_zero hr;go_wp2_with fail
  go_ret2;refine ⟨none,0,x,rfl,?_,HX.out,Gone.nil x⟩
  have e:lessL (setI []) c.cand=c.cand:=by
   unfold lessL setI;exact List.filter_eq_self.2 (fun i _=>by simp [asc])
  rw [e];exact SW.newRi (SW.few (pre:=[_,_,_,_,_,_]) (t:=l) S1.out [0,1,2,3,4] (n:=6) rfl (by decide) (by decide))
 | succ r=>
  have k0:=CR.cell0 (S1.out.get 0 (o:=coOb c) rfl);rw [HPS.out] at k0;have S2:Hid (SW b w0 (x.obs (riOb A R::coOb c::l)) wc):=SW.front (pre:=[_,_,_,_,_,_]) (t:=l) S1.out [1,2,3,4,5,0] (n:=6) rfl (by decide);have HRM:=hid (fun cc=>Rem_L S2.out HX.out A cc R (by simp) HRO.out hRl);rw [hr] at HRM |-; have hd:decide (((r+1:Nat):Int)=0)=false:=decide_eq_false (by omega);clear S1;go_wp2_with (go_at_call 25;(with_reducible refine (HRM.out _).mono ?_);refine halt_ ?_)
  rintro e w2 ⟨rfl,x',s2,hc2,hg2⟩;have C2:=hid hc2;have G2:=hid hg2;have HST:=hid (fun cc=>set_any s2 A cc R (by simp) HRO.out hRl);rw [hr] at HST;clear s2 hc2 hg2 HRM k0;go_wp2_with (go_at_call 113;(with_reducible refine (HST.out _).mono ?_);refine halt_ ?_)
  rintro e w3 ⟨rfl,s3⟩;have HDR:=hid (drop_any (SW.front (pre:=[_,_,_,_,_,_,_]) (t:=l) s3 [6,0,1,2,3,4,5] (n:=7) rfl (by decide)) HOK.out (by rw [HN.out];exact hl));clear s3 HST;go_wp2_with (go_at_call 112;(with_reducible refine HDR.out.mono ?_);refine halt_ ?_)
  rintro e w4 ⟨rfl,s4⟩;have S4:=hid s4;clear s4 HDR;go_wp2_with fail
  go_ret2;refine ⟨A,cap,x',by rw [hr];rfl,SW.few (pre:=[_,_,_,_,_,_,_]) (t:=l) S4.out [6,0,2,3,4,5] (n:=7) rfl (by decide) (by decide),C2.out,G2.out⟩
end
theorem getD_set (L:List Ses) (f j:Nat) (s:Ses):(L.set f s).getD j ses0=if j=f/\f<L.length then s else L.getD j ses0:=by
 simp only [zB,List.getElem?_set];by_cases e:f=j
 · subst e;by_cases hf:f<L.length
   · simp [hf]
   simp [hf]
 rw [if_neg e,if_neg (fun h=>e h.1.symm)]
section
variable {c:CR}
theorem begun_at {f m:Nat} {N:Int} (hf:f<c.se.length) (j:Nat):(c.begun f N m).se.getD j ses0=if j=f then ⟨N,true,some m,[]⟩ else c.se.getD j ses0:=by
 show ((((c.se.set f _).set f _).set f _).getD j ses0)=_;rw [getD_set];by_cases e:j=f
 · subst e;simp only [CR.ss,getD_set,List.length_set,hf,and_self,if_true]
 rw [if_neg (fun h=>e h.1),if_neg e,getD_set,if_neg (fun h=>e h.1),getD_set,if_neg (fun h=>e h.1)]
theorem ended_at {f:Nat} (hf:f<c.se.length) (j:Nat):(c.ended f).se.getD j ses0=if j=f then ⟨(c.ss f).num,false,none,[]⟩ else c.se.getD j ses0:=by
 show ((((c.se.set f _).set f _)).getD j ses0)=_;rw [getD_set];by_cases e:j=f
 · subst e;simp only [CR.ss,getD_set,List.length_set,hf,and_self,if_true]
 rw [if_neg (fun h=>e h.1),if_neg e,getD_set,if_neg (fun h=>e h.1)]
theorem begun_len {f m:Nat} {N:Int}:(c.begun f N m).se.length=c.se.length:=by simp [CR.begun,CR.bg,CR.put]
structure SesK (c:CR) (k:Nat):Prop where
 len:c.se.length=16
 on:∀ j,j<k->(c.ss j).num=100+(j:Int)/\(c.ss j).beg=true
 off:∀ j,k<=j->(c.ss j).beg=false
theorem SesK.start (h:c.se=List.replicate 16 ses0):SesK c 0:=⟨by rw [h];simp,fun j hj=>by omega,fun j _=>by
 show (c.se.getD j ses0).beg=false;rw [h,zB,List.getElem?_replicate];split<;>rfl⟩
theorem SesK.free {k:Nat} (h:SesK c k) (hk:k<16):fiO pFree c.se=some k:=by
 refine fiO_some (by rw [h.len];exact hk) ?_ (fun j hj=>?_)
 · show (!(c.ss k).beg)=true;rw [h.off k (Nat.le_refl _)];rfl
 show (!(c.ss j).beg)=false;rw [(h.on j hj).2];rfl
theorem SesK.no {k:Nat} (h:SesK c k) {N:Int} (hN:∀ j:Nat,j<k->N≠100+(j:Int)):fiO (pNum N) c.se=none:=fiO_none (fun j hj=>by
 show ((c.ss j).beg&&((c.ss j).num==N))=false;by_cases hjk:j<k
 · rw [(h.on j hjk).1,beq_eq_false_iff_ne.2 (fun e=>hN j hjk e.symm)];simp
 rw [h.off j (by omega)];rfl)
theorem held_iff {i:ID}:heldC c i=true↔∃ j,j<c.se.length/\(asc (c.ss j).H i).isSome=true:=by
 show (c.se.any fun s=>(asc s.H i).isSome)=true↔_;rw [List.any_eq_true];constructor
 · rintro ⟨s,hs,h⟩;obtain ⟨j,hj,rfl⟩:=List.mem_iff_getElem.1 hs;refine ⟨j,hj,?_⟩;show (asc (c.se.getD j ses0).H i).isSome=true;rw [zB,zE hj];exact h
 rintro ⟨j,hj,h⟩;exact ⟨c.se.getD j ses0,ses_at hj,h⟩
abbrev CR.hold (c:CR) (f:Nat) (i:ID):CR:=c.put f { c.ss f with H:=setL (c.ss f).H i () }
theorem hold_at {f:Nat} {i:ID} (hf:f<c.se.length) (j:Nat):(c.hold f i).se.getD j ses0=if j=f then { c.ss f with H:=setL (c.ss f).H i () } else c.se.getD j ses0:=by
 show (c.se.set f _).getD j ses0=_;rw [getD_set];by_cases e:j=f<;>simp [e,hf]
theorem hold_held {f:Nat} {i:ID} (hf:f<c.se.length) (j:ID):heldC (c.hold f i) j=(decide (i=j)||heldC c j):=by
 have hl:(c.hold f i).se.length=c.se.length:=by simp [CR.hold,CR.put]
 rw [Bool.eq_iff_iff,held_iff,Bool.or_eq_true,held_iff,decide_eq_true_eq];constructor
 · rintro ⟨k,hk,hx⟩;rw [hl] at hk;have hx:(asc ((c.hold f i).se.getD k ses0).H j).isSome=true:=hx;rw [hold_at hf] at hx;by_cases e:k=f
   · subst e;rw [if_pos rfl,asc_setL] at hx;by_cases e2:i=j
     · exact .inl e2
     rw [if_neg e2] at hx;exact .inr ⟨k,hk,hx⟩
   rw [if_neg e] at hx;exact .inr ⟨k,hk,hx⟩
 rintro (rfl | ⟨k,hk,hx⟩)
 · refine ⟨f,by rw [hl];exact hf,?_⟩;show (asc ((c.hold f i).se.getD f ses0).H i).isSome=true;rw [hold_at hf,if_pos rfl,asc_setL,if_pos rfl];rfl
 refine ⟨k,by rw [hl];exact hk,?_⟩;show (asc ((c.hold f i).se.getD k ses0).H j).isSome=true;rw [hold_at hf];by_cases e:k=f
 · subst e;rw [if_pos rfl,asc_setL];by_cases e2:i=j
   · rw [if_pos e2];rfl
   rw [if_neg e2];exact hx
 rw [if_neg e];exact hx
end
section
variable {b:Nat} {w0 w:World} {l:List Ob} {x:SR} {ns:List ByteArray}
abbrev lit183 (p:Nat) (A:Option Addr) (n c:Nat):Array Value:= #[vPtr p,.slice A n c,.int .i64 0,.bool false,.map none,.int .i64 0,.bool false,.map none,.int .i64 0,.bool false,.map none,.int .i64 0,.bool false,.map none,.int .i64 0,.bool false,.map none,.int .i64 0,.bool false,.map none,.int .i64 0,.bool false,.map none,.int .i64 0,.bool false,.map none,.int .i64 0,.bool false,.map none,.int .i64 0,.bool false,.map none,.int .i64 0,.bool false,.map none,.int .i64 0,.bool false,.map none,.int .i64 0,.bool false,.map none,.int .i64 0,.bool false,.map none,.int .i64 0,.bool false,.map none,.int .i64 0,.bool false,.map none]
theorem cells183 (q p:Nat) (A:Option Addr) (c:Nat) (ys:List ID):CR.cells ⟨q,p,A,c,ys,List.replicate 16 ses0⟩=lit183 p A ys.length c:=rfl
abbrev NewCo (b:Nat) (w0:World) (x:SR) (live:List ID) (l:List Ob) (e:Ending) (w':World):Prop:=
 ∃ (c:CR) (ys:List ID),e= .returned (vPtr c.cp)/\SW b w0 (coOb c::x.obs l) w'/\c.ps=x.ps/\c.se=List.replicate 16 ses0/\ys.Perm (x.C.map (·.1))/\SortedI ys/\c.cand=lessL (setI live) ys
theorem New_c (h:SW b w0 (x.obs l) w) (hx:Cl ns x) (A:Option Addr) (cap:Nat) (live:List ID) (hA:riOb A live∈l) (hok:∀ i∈live,okID i) (hl:live.length<=100000) (h12:x.C.length<=49):
 Calls Tryz.prog 109 #[vPtr x.ps,.slice A live.length cap] w (NewCo b w0 x live l):=by
 have H:=hid h;have HI:=hid (IDs_anyC h.1 h12);have HX:=hid hx;have HA:=hid hA;have HOK:=hid hok;clear h hx hA hok;go_enter Tryz.func109,Tryz.ntmps109;go_wp2_with (go_at_call 28;(with_reducible refine HI.out.mono ?_);refine halt_ ?_)
 rintro e w1 ⟨B,c1,ys,rfl,hp,hs,hr,hb,hc⟩
 have HP:Hid (ys.Perm (x.C.map (·.1))):=by
  have e:x.C.filter (fun c=>(fun _=>true) c.2)=x.C:=List.filter_eq_self.2 (fun _ _=>rfl);rw [e] at hp;exact hp
 have HS:=hid hs
 have S1:Hid (SW b w0 (coOb ⟨w1.heap.size,x.ps,B,c1,ys,List.replicate 16 ses0⟩::x.obs l) (w1.alloc (.cells (lit183 x.ps B ys.length c1) 183))):=by
  rw [<- cells183 w1.heap.size x.ps B c1 ys];have hb2:Below w.heap.size w (w1.alloc (.cells (CR.cells ⟨w1.heap.size,x.ps,B,c1,ys,List.replicate 16 ses0⟩) 183)):=hb.alloc hb.size _;refine H.out.addN hb2 ⟨IsB.new _ _ _,⟨hc,hr.1,fun ad e=>?_⟩,⟨by simp,fun s hs m hm=>?_,fun s hs _=>?_,?_⟩⟩ (fun i hi=>?_) (fun i hi=>hi.elim)
  · obtain ⟨g,e1,h1,h2,h3⟩:=hr.2 ad e;exact ⟨g,e1,h1.on ((Below.refl _ _).alloc (Nat.le_refl _) _),by simp;omega⟩
  · rw [List.eq_of_mem_replicate hs] at hm;cases hm
  · rw [List.eq_of_mem_replicate hs]
  · have:(List.replicate 16 ses0).filterMap Ses.hm=[]:=by
     refine List.filterMap_eq_nil_iff.2 (fun s hs=>?_);rw [List.eq_of_mem_replicate hs]
    rw [this];exact List.nodup_nil
  rcases hi with hi | hi | ⟨s,hs,hm⟩
  · have hi:i=w1.heap.size:=hi;rw [hi];exact ⟨hb.size,by simp⟩
  · obtain ⟨g,e1,_,h2,h3⟩:=hr.2 _ hi;injection e1 with e1;rw [e1];exact ⟨h2,by simp;omega⟩
  rw [List.eq_of_mem_replicate hs] at hm;cases hm
 have HYL:Hid (ys.length<=49):=by
  rw [Hid,HP.out.length_eq,List.length_map];exact h12
 have HYK:Hid (∀ i∈ys,okID i):=fun i hi=>by
  obtain ⟨⟨j,pl⟩,hm,rfl⟩:=List.mem_map.1 (HP.out.mem_iff.1 hi);exact H.out.1.sch.oks _ hm
 have HK:=hid (Keep_any S1.out A cap live (zA _ (zA _ (zA _ (zA _ HA.out)))) HOK.out HYK.out hl (by have:=HYL.out;show ys.length<=_;omega));clear hp hs hr hb hc HI S1;go_wp2_with (go_at_call 75;(with_reducible refine HK.out.mono ?_);refine halt_ ?_)
 rintro e w2 ⟨rfl,s2⟩;have S2:=hid s2;clear s2 HK;go_wp2_with fail
 go_ret;exact ⟨_,ys,rfl,S2.out,rfl,rfl,HP.out,HS.out,rfl⟩
end
abbrev nmS:ByteArray:=⟨#[115]⟩
theorem nmS_ok:nameV nmS=true:=by decide+kernel
theorem rs_const (w:World) (g:Nat) (hg:g=w.heap.size) (bs:List UInt8) (fr:Nat×Nat):RS (w.alloc (.cells (bs.map encU).toArray 5 fr)) (some ⟨g,0,none⟩) bs:=by
 subst hg;refine ⟨(fun e=>by cases e),fun ad e=>?_⟩;injection e with e;subst e;refine ⟨_,0,rfl,fun j hj=>?_⟩;have:(w.alloc (.cells (bs.map encU).toArray 5 fr)).heap[w.heap.size]? =some (.cells (bs.map encU).toArray 5 fr):=heap_alloc_new w _;rw [Nat.zero_add,cell_of_row _ _ j _ _ _ this,List.getElem?_toArray,List.getElem?_map,zE hj,zB,zE hj];rfl
end
end Go.Proofs.YteabgcollokgjaaGreatDoor
