/- Q -/
import Derived.Test.YteabgcollokgjaaGreatDoorY31
set_option linter.unusedSimpArgs false
set_option linter.unusedVariables false
set_option maxRecDepth 100000
set_option maxHeartbeats 32000000
open Go.Lib (hid)
open List renaming mem_cons_of_mem → zA,getD_eq_getElem?_getD → zB,length_take → zC,take_of_length_le → zD,getElem?_eq_getElem → zE,length_filter_le → zF
namespace Go.Proofs.YteabgcollokgjaaGreatDoor
section
open Go.RowKit Go.MapKept Go.ChangeMaps Go.Shelf Go.Sort
section
variable {b:Nat} {w0 w:World} {l:List Ob} {x:SR} {ns:List ByteArray}
abbrev lit183 (p:Nat) (A:Option Addr) (n c:Nat):Array Value:= #[vPtr p,.slice A n c,.int .i64 0,.bool false,.map none,.int .i64 0,.bool false,.map none,.int .i64 0,.bool false,.map none,.int .i64 0,.bool false,.map none,.int .i64 0,.bool false,.map none,.int .i64 0,.bool false,.map none,.int .i64 0,.bool false,.map none,.int .i64 0,.bool false,.map none,.int .i64 0,.bool false,.map none,.int .i64 0,.bool false,.map none,.int .i64 0,.bool false,.map none,.int .i64 0,.bool false,.map none,.int .i64 0,.bool false,.map none,.int .i64 0,.bool false,.map none,.int .i64 0,.bool false,.map none,.int .i64 0,.bool false,.map none]
theorem cells183 (q p:Nat) (A:Option Addr) (c:Nat) (ys:List ID):CR.cells ⟨q,p,A,c,ys,List.replicate 16 ses0⟩=lit183 p A ys.length c:=rfl
abbrev NewCo (b:Nat) (w0:World) (x:SR) (live:List ID) (l:List Ob) (e:Ending) (w':World):Prop:=
 ∃ (c:CR) (ys:List ID),e= .returned (vPtr c.cp)/\SW b w0 (coOb c::x.obs l) w'/\c.ps=x.ps/\c.se=List.replicate 16 ses0/\ys.Perm (x.C.map (·.1))/\SortedI ys/\c.cand=lessL (setI live) ys
theorem New_c (h:SW b w0 (x.obs l) w) (hx:Cl ns x) (A:Option Addr) (cap:Nat) (live:List ID) (hA:riOb A live∈l) (hok:∀ i∈live,okID i) (hl:live.length<=100000) (h12:x.C.length<=49):
 Calls Tryz.prog 109 #[vPtr x.ps,.slice A live.length cap] w (NewCo b w0 x live l):=by
 have H:=hid h;have HI:=hid (IDs_anyC h.1 h12);have HX:=hid hx;have HA:=hid hA;have HOK:=hid hok;clear h hx hA hok;go_enter Tryz.func109,Tryz.ntmps109;go_wp2_with (go_at_call 28;(with_reducible refine HI.out.mono ?_);refine halt_ ?_)
 rintro e w1 ⟨B,c1,ys,rfl,hp,hs,hr,hb,hc⟩
 have HP:Hid (ys.Perm (x.C.map (·.1))):=by
  have e:x.C.filter (fun c=>(fun _=>true) c.2)=x.C:=List.filter_eq_self.2 (fun _ _=>rfl);rw [e] at hp;exact hp
 have HS:=hid hs
 have S1:Hid (SW b w0 (coOb ⟨w1.heap.size,x.ps,B,c1,ys,List.replicate 16 ses0⟩::x.obs l) (w1.alloc (.cells (lit183 x.ps B ys.length c1) 183))):=by
  rw [<- cells183 w1.heap.size x.ps B c1 ys];have hb2:Below w.heap.size w (w1.alloc (.cells (CR.cells ⟨w1.heap.size,x.ps,B,c1,ys,List.replicate 16 ses0⟩) 183)):=hb.alloc hb.size _;refine H.out.addN hb2 ⟨IsB.new _ _ _,⟨hc,hr.1,fun ad e=>?_⟩,⟨by simp,fun s hs m hm=>?_,fun s hs _=>?_,?_⟩⟩ (fun i hi=>?_) (fun i hi=>hi.elim)
  · obtain ⟨g,e1,h1,h2,h3⟩:=hr.2 ad e;exact ⟨g,e1,h1.on ((Below.refl _ _).alloc (Nat.le_refl _) _),by simp;omega⟩
  · rw [List.eq_of_mem_replicate hs] at hm;cases hm
  · rw [List.eq_of_mem_replicate hs]
  · have:(List.replicate 16 ses0).filterMap Ses.hm=[]:=by
     refine List.filterMap_eq_nil_iff.2 (fun s hs=>?_);rw [List.eq_of_mem_replicate hs]
    rw [this];exact List.nodup_nil
  rcases hi with hi | hi | ⟨s,hs,hm⟩
  · have hi:i=w1.heap.size:=hi;rw [hi];exact ⟨hb.size,by simp⟩
  · obtain ⟨g,e1,_,h2,h3⟩:=hr.2 _ hi;injection e1 with e1;rw [e1];exact ⟨h2,by simp;omega⟩
  rw [List.eq_of_mem_replicate hs] at hm;cases hm
 have HYL:Hid (ys.length<=49):=by
  rw [Hid,HP.out.length_eq,List.length_map];exact h12
 have HYK:Hid (∀ i∈ys,okID i):=fun i hi=>by
  obtain ⟨⟨j,pl⟩,hm,rfl⟩:=List.mem_map.1 (HP.out.mem_iff.1 hi);exact H.out.1.sch.oks _ hm
 have HK:=hid (Keep_any S1.out A cap live (zA _ (zA _ (zA _ (zA _ HA.out)))) HOK.out HYK.out hl (by have:=HYL.out;show ys.length<=_;omega));clear hp hs hr hb hc HI S1;go_wp2_with (go_at_call 75;(with_reducible refine HK.out.mono ?_);refine halt_ ?_)
 rintro e w2 ⟨rfl,s2⟩;have S2:=hid s2;clear s2 HK;go_wp2_with fail
 go_ret;exact ⟨_,ys,rfl,S2.out,rfl,rfl,HP.out,HS.out,rfl⟩
end
section
variable {b:Nat} {w0 w:World} {l:List Ob} {c:CR} {x:SR} {ns:List ByteArray}
def stF (c:CR) (n:Int) (P:List ID):List ID:=(P.filter fun i=> !heldC c i).take n.toNat
abbrev stepL (c:CR) (n:Int):List ID:=stF c n c.cand
theorem stF_snoc (c:CR) (n:Int) (P:List ID) (i:ID) (h:((stF c n P).length:Int)<n):stF c n (P++[i])=stF c n P++if heldC c i then [] else [i]:=by
 unfold stF at*
 have hl:(P.filter fun i=> !heldC c i).length<n.toNat:=by
  rw [zC] at h;omega
 rw [List.filter_append,zD (l:=P.filter fun i=> !heldC c i) (by omega)];cases hh:heldC c i with
 | true=>
  have:[i].filter (fun i=> !heldC c i)=[]:=by simp [hh]
  rw [this];simp only [List.append_nil,if_true];rw [zD (by omega)]
 | false=>
  have:[i].filter (fun i=> !heldC c i)=[i]:=by simp [hh]
  rw [this];simp only [Bool.false_eq_true,if_false];rw [zD (by simp;omega)]
theorem stF_full (c:CR) (n:Int) (k:Nat) (h:n<=((stF c n (c.cand.take k)).length:Int)):stF c n (c.cand.take k)=stepL c n:=by
 unfold stepL;conv=>rhs;rw [<- List.take_append_drop k c.cand]
 unfold stF at *; rw [List.filter_append];rw [zC] at h;rw [List.take_append_of_le_length (by omega)]
theorem stF_sub (c:CR) (n:Int) (P:List ID):∀ i∈stF c n P,i∈P:=fun i hi=>(List.mem_filter.1 (List.take_subset _ _ hi)).1
theorem Gone.nil (x:SR):Gone x [] x where
 val:=fun i=>by simp
 has:=fun i=>by simp
 nm:=rfl
 p:=rfl
 ps:=rfl
 len:=Nat.le_refl _
 cnt:=by simp [goneL]
 bytes:=by simp [goneL,sizeN]
 wt:=Int.le_refl _
 now:=fun _ _ _=>rfl
abbrev StepP (ns:List ByteArray) (b:Nat) (w0:World) (c:CR) (x:SR) (R:List ID) (l:List Ob) (e:Ending) (w':World):Prop:=
 ∃ A cap x',e= .returned (.tuple #[.slice A R.length cap,.int .i64 0])/\SW b w0 (riOb A R::coOb { c with cand:=lessL (setI R) c.cand }::x'.obs l) w'/\Cl ns x'/\Gone x R x'
theorem Step_of (h:SW b w0 (coOb c::x.obs l) w) (hps:c.ps=x.ps) (hx:Cl ns x) (n:Int) (hok:∀ i∈c.cand,okID i) (hl:c.cand.length<=100000) (R:List ID) (hR:stepL c n=R):
 Calls Tryz.prog 62 #[vPtr c.cp,.int .i64 n] w (StepP ns b w0 c x R l):=by
 have HR:=hid hR;have HRO:Hid (∀ i∈R,okID i):=fun i hi=>hok i (stF_sub c n _ i (by rw [<- hR] at hi;exact hi))
 have hRl:R.length<=100000:=by
  rw [<- hR];show (stF c n c.cand).length<=_;unfold stF;rw [zC];have:=zF (fun i=> !heldC c i) c.cand;omega
 obtain ⟨A0,HA0⟩:∃ A0,Hid (c.A=A0):=⟨_,rfl⟩;clear hR;have H:=hid h;have HOK:=hid hok;have HX:=hid hx;have HPS:=hid hps;obtain ⟨N,HN⟩:∃ N,Hid (c.cand.length=N):=⟨_,rfl⟩;have k1:=CR.cell1 (h.get 0 (o:=coOb c) rfl);rw [HN.out,HA0.out] at k1;rw [HN.out] at hl;clear h hok hx hps;go_enter Tryz.func62,Tryz.ntmps62;go_upto_block 0 with fail
 go_cut [6] from 33 (fun s6 w'=>∃ A cap,s6= .slice A R.length cap/\SW b w0 (rowOb 31 2 (.slice A R.length cap) R.length (R.flatMap encID)::coOb c::x.obs l) w')
 case first=>
  go_wp2_with fail
  go_loopw [6,16] (fun s6 s16 wr=>∃ (k:Nat) (A:Option Addr) (cap:Nat),k<=N/\s16= .int .i64 (k:Int)/\s6= .slice A (stF c n (c.cand.take k)).length cap/\SW b w0 (rowOb 31 2 (.slice A (stF c n (c.cand.take k)).length cap) (stF c n (c.cand.take k)).length ((stF c n (c.cand.take k)).flatMap encID)::coOb c::x.obs l) wr) (fun _ s16 _=>N-(intOf s16).toNat)
  case atStart=>
   refine ⟨0,none,0,Nat.zero_le _,rfl,?_,?_⟩
   · simp [stF]
   have:=H.out.newRow 31 2;simpa [stF] using this
  obtain ⟨k,A,cap,hk,rfl,rfl,hs⟩:=hrel;have S1:=hid hs;clear hs H k1;by_cases hlt:k<N
  · have hltc:k<c.cand.length:=by rw [HN.out];exact hlt
    obtain ⟨i,hik⟩:∃ i,c.cand.getD k id0=i:=⟨_,rfl⟩
    have hmm:i∈c.cand:=by
     rw [<- hik,zB,zE hltc];exact List.getElem_mem hltc
    have hoki:=HOK.out i hmm
    have hts:c.cand.take (k+1)=c.cand.take k++[i]:=by
     rw [List.take_succ_eq_append_getElem hltc, <- hik,zB,zE hltc];rfl
    have HTS:=hid (stF_snoc c n (c.cand.take k) i);rw [<- hts] at HTS;have HFU:=hid (stF_full c n k);obtain ⟨F,HF⟩:∃ F,Hid (stF c n (c.cand.take k)=F):=⟨_,rfl⟩
    have hFk:F.length<=k:=by
     rw [<- HF.out];unfold stF;rw [zC];have:=zF (fun i=> !heldC c i) (c.cand.take k);rw [zC] at this;omega
    rw [HF.out] at S1 HTS HFU |-; have hhm:(coOb c).holds wr:=S1.out.get 1 (o:=coOb c) rfl
    obtain ⟨gA,hA,hrow,hgl⟩:∃ g,c.A=some ⟨g,0,none⟩/\RowI wr g c.cand/\g<wr.heap.size:=by
     obtain ⟨_,r2,r3⟩:=hhm.2.1;cases hcA:c.A with
     | none=>
      have:=r2 hcA;rw [this] at hltc;simp at hltc
     | some ad=>
      obtain ⟨g,rfl,h1,h2⟩:=r3 ad hcA;exact ⟨g,rfl,h1,h2⟩
    obtain rfl:A0=some ⟨gA,0,none⟩:=HA0.out.symm.trans hA;obtain ⟨a0,a1,_,_⟩:=hrow.cells hltc hik;have S2:=hid (S1.out.newCell 31 #[.int .u64 i.1,.int .i64 i.2]);have HHE:=hid (held_any (SW.front (pre:=[_,_,_]) (t:=x.obs l) S2.out [2,1,0] (n:=3) rfl (by decide)) i hoki);have c0:(wr.alloc (.cells #[.int .u64 i.1,.int .i64 i.2] 31)).cell? ⟨wr.heap.size,0,none⟩=some (.int .u64 i.1):=(S2.out.cell 0 rfl).cell 0;have c1:(wr.alloc (.cells #[.int .u64 i.1,.int .i64 i.2] 31)).cell? ⟨wr.heap.size,1,none⟩=some (.int .i64 i.2):=(S2.out.cell 0 rfl).cell 1;clear hhm hrow hik hmm hts hltc S1;by_cases hfull:n<=(F.length:Int)
    · have hd:decide ((F.length:Int)>=n)=true:=decide_eq_true hfull;have HE:Hid (F=R):=(HFU.out hfull).trans HR.out;clear HFU HTS;go_wp2_with fail
      go_meet;refine ⟨A,cap,?_,?_⟩
      · rw [HE.out]
      rw [<- HE.out];exact S2.out.tail
    have hd:decide ((F.length:Int)>=n)=false:=decide_eq_false (by omega);have HE:=hid (HTS.out (by omega));clear HFU HTS;go_wp2_with (go_at_call 111;(with_reducible refine HHE.out.mono ?_);refine halt_ ?_)
    rintro e w3 rfl s3;have S3:=hid (SW.front (pre:=[_,_,_]) (t:=x.obs l) s3 [2,1,0] (n:=3) rfl (by decide));clear s3 HHE S2 c0 c1;have c0:=(S3.out.cell 0 rfl).cell 0;have c1:=(S3.out.cell 0 rfl).cell 1;cases hhd:heldC c i with
    | true=>
     rw [hhd,if_pos rfl,List.append_nil] at HE;go_wp2_with fail
     go_roundw
     case rel=>
      refine ⟨k+1,A,cap,by omega,by go_num,?_,?_⟩
      · rw [HE.out]
      rw [HE.out];exact S3.out.tail
     simp [intOf];omega
    | false=>
     rw [hhd,if_neg (by decide)] at HE;obtain ⟨i1,gi,gz0,gz1,gz2⟩:=info_parts info31;go_wp2_with (at_builtin;(refine wpList_rowS (t:=38) (e:=31) (size:=2) (bytes:=16) (i:=i1) (S3.out.alloc _) 1 rfl (by rfl) (.tmp 28) (.tmp 30) (by rfl) Tryz.underlying38 gi gz0 gz1 gz2 rfl (by omega) (by rfl) ⟨w3.heap.size,0,none⟩ 1 [.int .u64 i.1,.int .i64 i.2] (by rfl) rfl (two_new w3 _ _ 31 _ rfl) (encID_one i) (by unfold maxLen;omega) (by omega) ?_);refine halt_ ?_)
     intro v4 w4 s4;obtain ⟨g4,c4,rfl⟩:=own_some (s4.get 1 rfl) (by omega)
     have S4:Hid (SW b w0 (rowOb 31 2 (.slice (some ⟨g4,0,none⟩) (F++[i]).length c4) (F++[i]).length ((F++[i]).flatMap encID)::coOb c::x.obs l) w4):=by
      rw [Hid,List.flatMap_append,List.length_append];exact s4.tail
     clear s4 S3 c0 c1;go_wp2_with fail
     go_roundw
     case rel=>
      refine ⟨k+1,some ⟨g4,0,none⟩,c4,by omega,by go_num,?_,?_⟩
      · rw [HE.out,List.length_append];rfl
      rw [HE.out];exact S4.out
     simp [intOf];omega
  obtain rfl:k=N:=by omega
  have hF:c.cand.take k=c.cand:=by rw [<- HN.out,List.take_length]
  have hFR:stF c n c.cand=R:=HR.out;rw [hF,hFR] at S1 |-; clear hFR hF;go_wp2_with fail
  go_meet;exact ⟨A,cap,rfl,S1.out⟩
 obtain ⟨A,cap,rfl,s⟩:=hcut;have S1:Hid (SW b w0 (coOb c::x.obs (riOb A R::l)) wc):=SW.front (pre:=[_,_,_,_,_,_]) (t:=l) s.rowRi [1,2,3,4,5,0] (n:=6) rfl (by decide);clear s k1 H;obtain ⟨r,hr⟩:∃ r,R.length=r:=⟨_,rfl⟩;cases r with
 | zero=>
  obtain rfl:R=[]:=List.eq_nil_of_length_eq_zero hr;go_wp2_with fail
  go_ret2;refine ⟨none,0,x,rfl,?_,HX.out,Gone.nil x⟩
  have e:lessL (setI []) c.cand=c.cand:=by
   unfold lessL setI;exact List.filter_eq_self.2 (fun i _=>by simp [asc])
  rw [e];exact SW.newRi (SW.few (pre:=[_,_,_,_,_,_]) (t:=l) S1.out [0,1,2,3,4] (n:=6) rfl (by decide) (by decide))
 | succ r=>
  have k0:=CR.cell0 (S1.out.get 0 (o:=coOb c) rfl);rw [HPS.out] at k0;have S2:Hid (SW b w0 (x.obs (riOb A R::coOb c::l)) wc):=SW.front (pre:=[_,_,_,_,_,_]) (t:=l) S1.out [1,2,3,4,5,0] (n:=6) rfl (by decide);have HRM:=hid (fun cc=>Rem_L S2.out HX.out A cc R (by simp) HRO.out hRl);rw [hr] at HRM |-; have hd:decide (((r+1:Nat):Int)=0)=false:=decide_eq_false (by omega);clear S1;go_wp2_with (go_at_call 25;(with_reducible refine (HRM.out _).mono ?_);refine halt_ ?_)
  rintro e w2 ⟨rfl,x',s2,hc2,hg2⟩;have C2:=hid hc2;have G2:=hid hg2;have HST:=hid (fun cc=>set_any s2 A cc R (by simp) HRO.out hRl);rw [hr] at HST;clear s2 hc2 hg2 HRM k0;go_wp2_with (go_at_call 113;(with_reducible refine (HST.out _).mono ?_);refine halt_ ?_)
  rintro e w3 ⟨rfl,s3⟩;have HDR:=hid (drop_any (SW.front (pre:=[_,_,_,_,_,_,_]) (t:=l) s3 [6,0,1,2,3,4,5] (n:=7) rfl (by decide)) HOK.out (by rw [HN.out];exact hl));clear s3 HST;go_wp2_with (go_at_call 112;(with_reducible refine HDR.out.mono ?_);refine halt_ ?_)
  rintro e w4 ⟨rfl,s4⟩;have S4:=hid s4;clear s4 HDR;go_wp2_with fail
  go_ret2;refine ⟨A,cap,x',by rw [hr];rfl,SW.few (pre:=[_,_,_,_,_,_,_]) (t:=l) S4.out [6,0,2,3,4,5] (n:=7) rfl (by decide) (by decide),C2.out,G2.out⟩
end
theorem getD_set (L:List Ses) (f j:Nat) (s:Ses):(L.set f s).getD j ses0=if j=f/\f<L.length then s else L.getD j ses0:=by
 simp only [zB,List.getElem?_set];by_cases e:f=j
 · subst e;by_cases hf:f<L.length
   · simp [hf]
   simp [hf]
 rw [if_neg e,if_neg (fun h=>e h.1.symm)]
section
variable {c:CR}
theorem begun_at {f m:Nat} {N:Int} (hf:f<c.se.length) (j:Nat):(c.begun f N m).se.getD j ses0=if j=f then ⟨N,true,some m,[]⟩ else c.se.getD j ses0:=by
 show ((((c.se.set f _).set f _).set f _).getD j ses0)=_;rw [getD_set];by_cases e:j=f
 · subst e;simp only [CR.ss,getD_set,List.length_set,hf,and_self,if_true]
 rw [if_neg (fun h=>e h.1),if_neg e,getD_set,if_neg (fun h=>e h.1),getD_set,if_neg (fun h=>e h.1)]
theorem ended_at {f:Nat} (hf:f<c.se.length) (j:Nat):(c.ended f).se.getD j ses0=if j=f then ⟨(c.ss f).num,false,none,[]⟩ else c.se.getD j ses0:=by
 show ((((c.se.set f _).set f _)).getD j ses0)=_;rw [getD_set];by_cases e:j=f
 · subst e;simp only [CR.ss,getD_set,List.length_set,hf,and_self,if_true]
 rw [if_neg (fun h=>e h.1),if_neg e,getD_set,if_neg (fun h=>e h.1)]
theorem begun_len {f m:Nat} {N:Int}:(c.begun f N m).se.length=c.se.length:=by simp [CR.begun,CR.bg,CR.put]
theorem ended_len {f:Nat}:(c.ended f).se.length=c.se.length:=by simp [CR.ended,CR.put]
structure SesK (c:CR) (k:Nat):Prop where
 len:c.se.length=16
 on:∀ j,j<k->(c.ss j).num=100+(j:Int)/\(c.ss j).beg=true
 off:∀ j,k<=j->(c.ss j).beg=false
theorem SesK.start (h:c.se=List.replicate 16 ses0):SesK c 0:=⟨by rw [h];simp,fun j hj=>by omega,fun j _=>by
 show (c.se.getD j ses0).beg=false;rw [h,zB,List.getElem?_replicate];split<;>rfl⟩
theorem SesK.free {k:Nat} (h:SesK c k) (hk:k<16):fiO pFree c.se=some k:=by
 refine fiO_some (by rw [h.len];exact hk) ?_ (fun j hj=>?_)
 · show (!(c.ss k).beg)=true;rw [h.off k (Nat.le_refl _)];rfl
 show (!(c.ss j).beg)=false;rw [(h.on j hj).2];rfl
theorem SesK.no {k:Nat} (h:SesK c k) {N:Int} (hN:∀ j:Nat,j<k->N≠100+(j:Int)):fiO (pNum N) c.se=none:=fiO_none (fun j hj=>by
 show ((c.ss j).beg&&((c.ss j).num==N))=false;by_cases hjk:j<k
 · rw [(h.on j hjk).1,beq_eq_false_iff_ne.2 (fun e=>hN j hjk e.symm)];simp
 rw [h.off j (by omega)];rfl)
theorem held_iff {i:ID}:heldC c i=true↔∃ j,j<c.se.length/\(asc (c.ss j).H i).isSome=true:=by
 show (c.se.any fun s=>(asc s.H i).isSome)=true↔_;rw [List.any_eq_true];constructor
 · rintro ⟨s,hs,h⟩;obtain ⟨j,hj,rfl⟩:=List.mem_iff_getElem.1 hs;refine ⟨j,hj,?_⟩;show (asc (c.se.getD j ses0).H i).isSome=true;rw [zB,zE hj];exact h
 rintro ⟨j,hj,h⟩;exact ⟨c.se.getD j ses0,ses_at hj,h⟩
abbrev CR.hold (c:CR) (f:Nat) (i:ID):CR:=c.put f { c.ss f with H:=setL (c.ss f).H i () }
theorem hold_at {f:Nat} {i:ID} (hf:f<c.se.length) (j:Nat):(c.hold f i).se.getD j ses0=if j=f then { c.ss f with H:=setL (c.ss f).H i () } else c.se.getD j ses0:=by
 show (c.se.set f _).getD j ses0=_;rw [getD_set];by_cases e:j=f<;>simp [e,hf]
theorem hold_held {f:Nat} {i:ID} (hf:f<c.se.length) (j:ID):heldC (c.hold f i) j=(decide (i=j)||heldC c j):=by
 have hl:(c.hold f i).se.length=c.se.length:=by simp [CR.hold,CR.put]
 rw [Bool.eq_iff_iff,held_iff,Bool.or_eq_true,held_iff,decide_eq_true_eq];constructor
 · rintro ⟨k,hk,hx⟩;rw [hl] at hk;have hx:(asc ((c.hold f i).se.getD k ses0).H j).isSome=true:=hx;rw [hold_at hf] at hx;by_cases e:k=f
   · subst e;rw [if_pos rfl,asc_setL] at hx;by_cases e2:i=j
     · exact .inl e2
     rw [if_neg e2] at hx;exact .inr ⟨k,hk,hx⟩
   rw [if_neg e] at hx;exact .inr ⟨k,hk,hx⟩
 rintro (rfl | ⟨k,hk,hx⟩)
 · refine ⟨f,by rw [hl];exact hf,?_⟩;show (asc ((c.hold f i).se.getD f ses0).H i).isSome=true;rw [hold_at hf,if_pos rfl,asc_setL,if_pos rfl];rfl
 refine ⟨k,by rw [hl];exact hk,?_⟩;show (asc ((c.hold f i).se.getD k ses0).H j).isSome=true;rw [hold_at hf];by_cases e:k=f
 · subst e;rw [if_pos rfl,asc_setL];by_cases e2:i=j
   · rw [if_pos e2];rfl
   rw [if_neg e2];exact hx
 rw [if_neg e];exact hx
end
abbrev nmS:ByteArray:=⟨#[115]⟩
theorem nmS_ok:nameV nmS=true:=by decide+kernel
theorem rs_const (w:World) (g:Nat) (hg:g=w.heap.size) (bs:List UInt8) (fr:Nat×Nat):RS (w.alloc (.cells (bs.map encU).toArray 5 fr)) (some ⟨g,0,none⟩) bs:=by
 subst hg;refine ⟨(fun e=>by cases e),fun ad e=>?_⟩;injection e with e;subst e;refine ⟨_,0,rfl,fun j hj=>?_⟩;have:(w.alloc (.cells (bs.map encU).toArray 5 fr)).heap[w.heap.size]? =some (.cells (bs.map encU).toArray 5 fr):=heap_alloc_new w _;rw [Nat.zero_add,cell_of_row _ _ j _ _ _ this,List.getElem?_toArray,List.getElem?_map,zE hj,zB,zE hj];rfl
section
variable {ns:List ByteArray} {b:Nat} {w0 w w':World} {l:List Ob} {x:SR} {c:CR}
theorem New_S (h:SW b w0 l w):Calls Tryz.prog 21 #[] w (fun e w'=>∃ r,e= .returned (vPtr (w.heap.size+2))/\SW b w0 (devOb (w.heap.size+2) r St.new::l) w'):=by
 refine (New_any w).mono ?_;rintro e w' ⟨rfl,hd,hb⟩;refine ⟨_,rfl,h.addN hb hd (fun i hi=>⟨?_,hd.own_lt hi⟩) (fun i hi=>⟨?_,hd.reads_lt hi⟩)⟩
 · rcases hi with hi | ⟨q,hq,rfl⟩
   · rcases hi with rfl | rfl | rfl | hi
     · omega
     · exact Nat.le_refl _
     · exact Nat.le_succ _
     cases hi
   cases hq
 obtain ⟨d,hd,_⟩:=hi;rcases hd with ⟨_,he,_⟩ | ⟨_,he,_⟩ | ⟨_,he,_⟩<;>cases he
theorem IDs_S (h:SW b w0 (x.obs l) w) (hn:x.C.length<=49):Calls Tryz.prog 28 #[vPtr x.ps] w (fun e w'=>∃ A c ys,e= .returned (.slice A ys.length c)/\ys.Perm (x.C.map (·.1))/\SortedI ys/\SW b w0 (riOb A ys::x.obs l) w'):=by
 refine (IDs_anyC h.1 hn).mono ?_;rintro e w' ⟨A,c,ys,rfl,hp,hs,hr,hb,hc⟩;have e:x.C.filter (fun c=>(fun _=>true) c.2)=x.C:=List.filter_eq_self.2 (fun _ _=>rfl);rw [e] at hp;refine ⟨A,c,ys,rfl,hp,hs,h.addN hb ⟨hr.1,fun ad e=>?_⟩ (fun i hi=>hi.elim) (fun i hi=>?_)⟩
 · obtain ⟨g,e1,h1,h2,h3⟩:=hr.2 ad e;exact ⟨g,e1,h1,h3⟩
 obtain ⟨g,e1,h1,h2,h3⟩:=hr.2 _ hi;injection e1 with e1;rw [e1];exact ⟨h2,h3⟩
theorem HasC_of (hps:c.ps=x.ps) (i:ID) (hi:okID i) {v:Bool} (hv:(asc x.C i).isSome=v):HasC b w0 c (x.obs l) i v:=fun w' h=>by
 rw [hps, <- hv];exact Has_any h.1.tail i hi
theorem Same_S {A B:Option Addr} {xs ys:List ID} (h:SW b w0 l w) (hA:riOb A xs∈l) (hB:riOb B ys∈l) (n1:xs.length<=100000) (n2:ys.length<=100000) (c d:Nat) {v:Bool} (hv:decide (xs=ys)=v):
 Calls Tryz.prog 64 #[.slice A xs.length c,.slice B ys.length d] w (fun e w'=>e= .returned (.bool v)/\SW b w0 l w'):=by
 refine (SameIDs_any w.heap.size w.heap.size xs ys A B c d w (rdID_of (h.1.holds _ hA)) (rdID_of (h.1.holds _ hB)) (by omega) (by omega)).mono ?_;rintro e w' ⟨rfl,hb⟩;rw [hv];exact ⟨rfl,h.on hb⟩
end
abbrev bA:List UInt8:=[97]
abbrev bB:List UInt8:=[98]
def iA:ID:=fpOf bA
def iB:ID:=fpOf bB
theorem iAB_ne2:iA≠iB:=by decide+kernel
theorem iA_ok:okID iA:=okID_fp bA (by decide)
theorem iB_ok:okID iB:=okID_fp bB (by decide)
theorem known61_any (w:World):Calls Tryz.prog 61 #[] w (fun e w'=>e= .returned (.bool true)/\Below w.heap.size w w'):=by
 have kc:=fun (w:World) (C:Array Value) (n c:Nat)=>Lib.run_convert_bytes_const (P:=Tryz.prog) w 34 5 C n c Tryz.underlying34 Tryz.underlying5
 have kc1:=fun (w:World) (o:Obj) (C:Array Value) (n c:Nat)=>(show Sem.run Tryz.prog (convert 34 34 (.slice (some ⟨w.heap.size+1,0,none⟩) n c)) ((w.alloc o).alloc (.cells C 5))= .ok (.slice (some ⟨w.heap.size+1,0,none⟩) n c) ((w.alloc o).alloc (.cells C 5 (C.size,C.size+1))) from by
  have:=kc (w.alloc o) C n c;simpa using this)
 go_enter Tryz.func61,Tryz.ntmps61;go_wp2_with fail
 refine (New_S (SW.refl (Sep.nil w (Nat.le_refl _)))).mono ?_;rintro e w1 ⟨r,rfl,hs⟩;have S1:=hid hs;clear hs;go_wp2_with fail
 refine (Open_L (ns:=[fileN nmS]) S1.out nmS nmS_ok rfl rfl (fun _=>rfl) (by decide) (by simp) (by simp)).mono ?_;rintro e w2 ⟨x0,rfl,hs,hc,hC,hF,hnm,_,hw,hby⟩;have S2:=hid hs;have C2:=hid hc;have HC:=hid hC;clear hs hc hC hF hnm hw hby S1;go_wp2_with fail
 have S2b:Hid (SW w.heap.size w (x0.obs []) (w2.alloc (Obj.cells #[Value.int .u8 97] 5 (1,2)))):=S2.out.alloc _;refine (PutN_L S2b.out C2.out _ 1 bA (rs_const w2 _ rfl bA (1,2)) (by decide) (by decide) (by rw [HC.out];rfl) (by rw [HC.out];decide)).mono ?_;rintro e w3 ⟨rfl,d,hs,hc⟩;have S3:=hid (hs.newCell 31 #[.int .u64 iA.1,.int .i64 iA.2]).behind;have C3:=hid hc;clear hs hc S2b S2 C2;rw [show fpOf bA=iA from rfl] at *; obtain ⟨x1,HX⟩:∃ x1,Hid (putS x0 iA d bA=x1):=⟨_,rfl⟩;rw [HX.out] at S3 C3;have hps:x0.ps=x1.ps:=by rw [<- HX.out];rfl
 have HC1:Hid (x1.C=[(iA,.pend d bA)]):=by rw [Hid, <- HX.out];simp [putS,HC.out,setL]
 rw [hps];clear hps;go_wp2_with fail
 have S3b:=hid (S3.out.alloc (Obj.cells #[Value.int .u8 98] 5 (1,2)))
 refine (PutN_L S3b.out C3.out _ 1 bB (rs_const (w3.alloc (Obj.cells #[.int .u64 iA.1,.int .i64 iA.2] 31)) _ (by simp) bB (1,2)) (by decide) (by decide) (by
  rw [HC1.out];show (if iA=iB then _ else _)=_;rw [if_neg iAB_ne2];rfl) (by rw [HC1.out];simp)).mono ?_
 rintro e w4 ⟨rfl,d2,hs,hc⟩;rw [show fpOf bB=iB from rfl] at *; obtain ⟨x2,HX2⟩:∃ x2,Hid (putS x1 iB d2 bB=x2):=⟨_,rfl⟩;rw [HX2.out] at hs hc;have S4:=hid (hs.newCell 31 #[.int .u64 iB.1,.int .i64 iB.2]).behind;have C4:=hid hc;have hps:x1.ps=x2.ps:=by rw [<- HX2.out];rfl
 have HC2:Hid (x2.C=[(iA,.pend d bA),(iB,.pend d2 bB)]):=by rw [Hid, <- HX2.out];simp [putS,HC1.out,setL,iAB_ne2]
 rw [hps];clear hs hc hps S3b S3 C3;have a0:=(S4.out.cell 5 rfl).cell 0;have a1:=(S4.out.cell 5 rfl).cell 1;go_upto_region 6 with fail
 obtain ⟨W5,HW5⟩:∃ W5,Hid (w4.alloc (.cells #[.int .u64 iB.1,.int .i64 iB.2] 31)=W5):=⟨_,rfl⟩;obtain ⟨gA,HGA⟩:∃ gA,Hid (w3.heap.size=gA):=⟨_,rfl⟩;obtain ⟨gB,HGB⟩:∃ gB,Hid (w4.heap.size=gB):=⟨_,rfl⟩;rw [HW5.out,HGA.out,HGB.out] at S4;rw [HW5.out,HGA.out] at a0 a1;rw [HW5.out,HGA.out,HGB.out];have S5:=hid (S4.out.newIds1 iA).behind;have HNC:=hid (New_c S5.out C4.out (some ⟨W5.heap.size,0,none⟩) 1 [iA] (by simp) (fun i hi=>by rw [List.mem_singleton.1 hi];exact iA_ok) (by simp) (by rw [HC2.out];simp));rw [show ([iA]:List ID).length=1 from rfl] at HNC;clear HW5 HGA HGB S4;go_wp2_with (go_at_call 109;(with_reducible refine HNC.out.mono ?_);refine halt_ ?_)
 rintro e w6 ⟨co,ys,rfl,s6,hps,hse,hp,hso,hcd⟩;have HPS:=hid hps
 have HCD:Hid (co.cand=[iB]):=by
  rw [Hid,hcd];have h1:=hp.filter (fun i=>(asc (setI [iA]) i).isNone)
  have h2:(x2.C.map (·.1)).filter (fun i=>(asc (setI [iA]) i).isNone)=[iB]:=by
   rw [HC2.out];have e1:asc (setI [iA]) iA=some ():=by simp [setI,setL,asc]
   have e2:asc (setI [iA]) iB=none:=by simp [setI,setL,asc,iAB_ne2]
   simp [e1,e2]
  rw [h2] at h1;exact List.perm_singleton.1 h1
 have K0:=hid (SesK.start hse);have HSE:=hid hse;have S6:=hid s6;have HL:=hid (Left_any s6);rw [HCD.out] at HL;clear s6 hps hse hp hso hcd HNC S5 a0 a1;have HB:=hid (fun (W:World) (s:SW w.heap.size w (coOb co::x2.obs [riOb (some ⟨W5.heap.size,0,none⟩) [iA],cellOb gB 31 #[.int .u64 iB.1,.int .i64 iB.2],cellOb gA 31 #[.int .u64 iA.1,.int .i64 iA.2]]) W)=>Begin_new s 1 (by omega) 0 (K0.out.free (by omega)) (K0.out.no (fun j hj=>by omega)));rw [show (([iB]:List ID).length:Int)=1 from rfl] at HL;go_wp2_with (first | (go_at_call 63;(with_reducible refine HL.out.mono ?_);refine halt_ ?_) | (go_at_call 71;refine halt_ ?_))
 rintro e w7 ⟨rfl,s7⟩;have HB:=hid (HB.out _ s7);clear HL S6 s7;go_wp2_with (go_at_call 71;(with_reducible refine HB.out.mono ?_);refine halt_ ?_)
 rintro e w8 ⟨rfl,m,s8⟩;have hcl:co.se.length=16:=K0.out.len;have hb0:=fun j=>begun_at (c:=co) (f:=0) (m:=m) (N:=1) (by omega) j;obtain ⟨c1,HC1e⟩:∃ c1,Hid (co.begun 0 1 m=c1):=⟨_,rfl⟩;have HCP:Hid (c1.cp=co.cp):=by rw [<- HC1e.out];rfl
 have HCD1:Hid (c1.cand=[iB]):=by rw [<- HC1e.out];exact HCD.out
 have HPS1:Hid (c1.ps=x2.ps):=by rw [<- HC1e.out];exact HPS.out
 have HN1:Hid (fiO (pNum 1) c1.se=some 0):=by
  rw [<- HC1e.out];refine fiO_some (by rw [begun_len];omega) ?_ (fun j hj=>by omega);rw [hb0];rfl
 have HM1:Hid ((c1.ss 0).hm=some m):=by
  rw [<- HC1e.out];show ((co.begun 0 1 m).se.getD 0 ses0).hm=some m;rw [hb0];rfl
 have HLEN:Hid (c1.se.length=16):=by rw [<- HC1e.out,begun_len];exact hcl
 have HO1:Hid (∀ j,j≠0->c1.ss j=ses0):=fun j hj=>by
  rw [<- HC1e.out];show (co.begun 0 1 m).se.getD j ses0=ses0;rw [hb0,if_neg hj,HSE.out,zB,List.getElem?_replicate];split<;>rfl
 rw [HC1e.out] at s8;have S8:=hid s8;have b0:=(s8.cell 6 rfl).cell 0;have b1:=(s8.cell 6 rfl).cell 1;have hio:=iB_ok;have HT:=hid (Touch_held s8 1 0 HN1.out m HM1.out iB hio (HasC_of HPS1.out iB hio (v:=true) (by rw [HC2.out];simp [asc,iAB_ne2])));rw [HCP.out] at HT;clear s8 hb0 HB HC1e hcl;go_wp2_with (go_at_call 73;(with_reducible refine HT.out.mono ?_);refine halt_ ?_)
 rintro e w9 ⟨rfl,s9⟩;have hf1:0<c1.se.length:=by rw [HLEN.out];omega
 have HH2:Hid (heldC (c1.hold 0 iB) iB=true):=by rw [Hid,hold_held hf1];simp
 have ha2:=fun j=>hold_at (c:=c1) (f:=0) (i:=iB) hf1 j;obtain ⟨c2,HC2e⟩:∃ c2,Hid (c1.hold 0 iB=c2):=⟨_,rfl⟩;have HCP2:Hid (c2.cp=co.cp):=by rw [<- HC2e.out];exact HCP.out
 have HCD2:Hid (c2.cand=[iB]):=by rw [<- HC2e.out];exact HCD1.out
 have HPS2:Hid (c2.ps=x2.ps):=by rw [<- HC2e.out];exact HPS1.out
 have HLEN2:Hid (c2.se.length=16):=by
  have:(c1.hold 0 iB).se.length=c1.se.length:=by simp [CR.hold,CR.put]
  rw [<- HC2e.out,Hid,this];exact HLEN.out
 have HO2:Hid (∀ j,j≠0->c2.ss j=ses0):=fun j hj=>by
  rw [<- HC2e.out];exact (ha2 j).trans ((if_neg hj).trans (HO1.out j hj))
 have h20:(c1.hold 0 iB).se.getD 0 ses0={ c1.ss 0 with H:=setL (c1.ss 0).H iB () }:=(ha2 0).trans (if_pos rfl)
 have HN2:Hid (fiO (pNum 1) c2.se=some 0):=by
  have hp:=(fiO_lt HN1.out).2;rw [<- HC2e.out];refine fiO_some (by have:=HLEN2.out;rw [<- HC2e.out] at this;omega) ?_ (fun j hj=>by omega);rw [h20];exact hp
 have s9':SW w.heap.size w (coOb c2::x2.obs [riOb (some ⟨W5.heap.size,0,none⟩) [iA],cellOb gB 31 #[.int .u64 iB.1,.int .i64 iB.2],cellOb gA 31 #[.int .u64 iA.1,.int .i64 iA.2]]) w9:=by
  rw [<- HC2e.out];exact s9
 rw [HC2e.out] at HH2;have HOKS:Hid (∀ i∈[iB],okID i):=fun i hi=>by rw [List.mem_singleton.1 hi];exact iB_ok
 have HST:=hid (Step_of s9' HPS2.out C4.out 9 (by rw [HCD2.out];exact HOKS.out) (by rw [HCD2.out];simp) [] (by
  show (c2.cand.filter fun i=> !heldC c2 i).take _=[];rw [HCD2.out];simp [HH2.out]))
 rw [HCP2.out] at HST;clear s9 s9' HC2e h20 ha2 hf1 HT S8 b0 b1;go_wp2_with (go_at_call 62;(with_reducible refine HST.out.mono ?_);refine halt_ ?_)
 rintro e w10 ⟨A1,cap1,x3,rfl,s10,hc3,hg3⟩;rw [show (([]:List ID).length)=0 from rfl];have C10:=hid hc3;have G10:=hid hg3;obtain ⟨c3,HC3e⟩:∃ c3:CR,Hid ({ c2 with cand:=lessL (setI []) c2.cand }=c3):=⟨_,rfl⟩;have HCP3:Hid (c3.cp=co.cp):=by rw [<- HC3e.out];exact HCP2.out
 have HSE3:Hid (c3.se=c2.se):=by rw [<- HC3e.out];rfl
 have HPS3:Hid (c3.ps=x3.ps):=by rw [<- HC3e.out];exact HPS2.out.trans hg3.ps.symm
 have HCD3:Hid (c3.cand=[iB]):=by
  rw [<- HC3e.out];show lessL (setI []) c2.cand=[iB];rw [HCD2.out];rfl
 rw [HC3e.out] at s10;have HEN:=hid (End_some s10.tail 1 0 (by rw [HSE3.out];exact HN2.out));rw [HCP3.out] at HEN;clear s10 hc3 hg3 HC3e HST;go_wp2_with (go_at_call 67;(with_reducible refine HEN.out.mono ?_);refine halt_ ?_)
 rintro e w11 ⟨rfl,s11⟩;have hl3:0<c3.se.length:=by rw [HSE3.out,HLEN2.out];omega
 have he4:=fun j=>ended_at (c:=c3) (f:=0) hl3 j;obtain ⟨c4,HC4e⟩:∃ c4,Hid (c3.ended 0=c4):=⟨_,rfl⟩;have HCP4:Hid (c4.cp=co.cp):=by rw [<- HC4e.out];exact HCP3.out
 have HPS4:Hid (c4.ps=x3.ps):=by rw [<- HC4e.out];exact HPS3.out
 have HCD4:Hid (c4.cand=[iB]):=by rw [<- HC4e.out];exact HCD3.out
 have HNH:Hid (heldC c4 iB=false):=by
  rw [Hid, <- HC4e.out,Bool.eq_false_iff];intro hh;obtain ⟨j,hj,hx⟩:=held_iff.1 hh;have hx:(asc ((c3.ended 0).se.getD j ses0).H iB).isSome=true:=hx;rw [he4] at hx;by_cases e:j=0
  · rw [if_pos e] at hx;cases hx
  rw [if_neg e,HSE3.out] at hx;have:=HO2.out j e;have this:c2.se.getD j ses0=ses0:=this;rw [this] at hx;cases hx
 rw [HC4e.out] at s11
 have HST:=hid (Step_of s11 HPS4.out C10.out 9 (by rw [HCD4.out];exact HOKS.out) (by rw [HCD4.out];simp) [iB] (by
  show (c4.cand.filter fun i=> !heldC c4 i).take _=[iB];rw [HCD4.out];simp [HNH.out]))
 rw [HCP4.out] at HST;clear s11 he4 HC4e HEN;go_wp2_with (go_at_call 62;(with_reducible refine HST.out.mono ?_);refine halt_ ?_)
 rintro e w12 ⟨A2,cap2,x4,rfl,s12,hc4,hg4⟩;rw [show (([iB]:List ID).length)=1 from rfl];have G12:=hid hg4;have HPS5:Hid (x2.ps=x4.ps):=(hg4.ps.trans G10.out.ps).symm;rw [HPS5.out];have S12:Hid (SW w.heap.size w (x4.obs [riOb A2 [iB],coOb { c4 with cand:=lessL (setI [iB]) c4.cand },riOb (some ⟨W5.heap.size,0,none⟩) [iA],cellOb gB 31 #[.int .u64 iB.1,.int .i64 iB.2],cellOb gA 31 #[.int .u64 iA.1,.int .i64 iA.2]]) w12):=SW.front (pre:=[_,_,_,_,_,_]) s12 [2,3,4,5,0,1] (n:=6) rfl (by decide);have S13:=hid (S12.out.newIds1 iB);have HSM:=hid (Same_S S13.out (xs:=[iB]) (ys:=[iB]) (A:=A2) (B:=some ⟨w12.heap.size,0,none⟩) (by simp) (by simp) (by simp) (by simp) cap2 1 (decide_eq_true rfl));rw [show (([iB]:List ID).length)=1 from rfl] at HSM
 have hB4:(asc x4.C iB).isSome=false:=by
  rw [G12.out.has];simp
 have hA4:(asc x4.C iA).isSome=true:=by
  rw [G12.out.has,G10.out.has,HC2.out];simp [asc,iAB_ne2]
 have HHB:=hid (fun (W:World) (s:SW w.heap.size w (riOb (some ⟨w12.heap.size,0,none⟩) [iB]::x4.obs [riOb A2 [iB],coOb { c4 with cand:=lessL (setI [iB]) c4.cand },riOb (some ⟨W5.heap.size,0,none⟩) [iA],cellOb gB 31 #[.int .u64 iB.1,.int .i64 iB.2],cellOb gA 31 #[.int .u64 iA.1,.int .i64 iA.2]]) W)=>Has_any s.1.tail iB iB_ok);have HHA:=hid (fun (W:World) (s:SW w.heap.size w (riOb (some ⟨w12.heap.size,0,none⟩) [iB]::x4.obs [riOb A2 [iB],coOb { c4 with cand:=lessL (setI [iB]) c4.cand },riOb (some ⟨W5.heap.size,0,none⟩) [iA],cellOb gB 31 #[.int .u64 iB.1,.int .i64 iB.2],cellOb gA 31 #[.int .u64 iA.1,.int .i64 iA.2]]) W)=>Has_any s.1.tail iA iA_ok);rw [hB4] at HHB;rw [hA4] at HHA;have b0:=(S12.out.cell 7 rfl).cell 0;have b1:=(S12.out.cell 7 rfl).cell 1;clear s12 hc4 hg4 HST hB4 hA4;go_wp2_with (go_at_call 64;(with_reducible refine HSM.out.mono ?_);refine halt_ ?_)
 rintro e w13 ⟨rfl,s13⟩;have b0:=(s13.cell 8 rfl).cell 0;have b1:=(s13.cell 8 rfl).cell 1;have S14:=hid s13;clear s13;go_wp2_with (go_at_call 46;(with_reducible refine (HHB.out _ S14.out).mono ?_);refine halt_ ?_)
 rintro e w14 ⟨rfl,hb14⟩;have S15:=hid (S14.out.on hb14);have a0:=(S15.out.cell 9 rfl).cell 0;have a1:=(S15.out.cell 9 rfl).cell 1;clear hb14 b0 b1 S14;go_wp2_with (go_at_call 46;(with_reducible refine (HHA.out _ S15.out).mono ?_);refine halt_ ?_)
 rintro e w15 ⟨rfl,hb15⟩;have S16:=hid (S15.out.on hb15);clear hb15 a0 a1 S15;go_wp2_with fail
 go_ret;exact ⟨rfl,S16.out.2⟩
end
end Go.Proofs.YteabgcollokgjaaGreatDoor
