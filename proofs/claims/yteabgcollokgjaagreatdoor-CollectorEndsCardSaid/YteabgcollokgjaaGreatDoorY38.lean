/- Q -/
import Derived.Test.YteabgcollokgjaaGreatDoorY37
set_option linter.unusedSimpArgs false
set_option linter.unusedVariables false
set_option maxRecDepth 100000
set_option maxHeartbeats 32000000
open Go.Lib (hid)
open List renaming mem_cons_of_mem → zA,getD_eq_getElem?_getD → zB,length_append → zC,length_take → zD,length_map → zE,take_of_length_le → zF,getElem?_eq_getElem → zG,length_filter_le → zH,setIfInBounds_toArray → zI
namespace Go.Proofs.YteabgcollokgjaaGreatDoor
section
open Go.RowKit Go.MapKept Go.ChangeMaps Go.Shelf Go.Sort
attribute [local go_sem] wext_cell
def stR (hs:List Hold) (cd:List ID) (n:Int):List ID:=(lessR cd (hs.map (·.2))).take n.toNat
theorem RowI.take {w:World} {g:Nat} {l:List ID} (h:RowI w g l) (k:Nat):RowI w g (l.take k):=by
 obtain ⟨cur,h1,h2,h3⟩:=h;refine ⟨cur,h1,by rw [zD];omega,fun j hj=>?_⟩;rw [zD] at hj
 have e:(l.take k).getD j id0=l.getD j id0:=by
  rw [zB,List.getElem?_take_of_lt (by omega),zB]
 rw [e];exact h3 j (by omega)
theorem sz31 (w:World):(sizeOf 31).run Tryz.prog w= .ok 2 w:=by kernel_rfl
section
variable {b:Nat} {w0 w:World} {l:List Ob}
theorem SW.riTake {A:Option Addr} {F:List ID} {t:List Ob} (h:SW b w0 (riOb A F::t) w) (k:Nat):SW b w0 (riOb A (F.take k)::riOb A F::t) w:=by
 have hh:(riOb A F).holds w:=h.get 0 (o:=riOb A F) rfl;refine h.again (o:=riOb A F) (o':=riOb A (F.take k)) (by simp) (fun _ h=>h) ⟨fun e=>by rw [hh.1 e,List.take_nil],fun ad e=>?_⟩ (fun _ h=>h) (fun _ h=>h);obtain ⟨g,e1,h2,h3⟩:=hh.2 ad e;exact ⟨g,e1,h2.take k,h3⟩
theorem lessR_le (l g:List ID):(lessR l g).length<=l.length:=zH _ _
theorem rLessC_any {A1 A2:Option Addr} {l1 l2:List ID} (h:SW b w0 l w) (h1:riOb A1 l1∈l) (h2:riOb A2 l2∈l) (n1:l1.length<=100000) (n2:l2.length<=100000) (c1 c2:Nat):
 Calls Tryz.prog 121 #[.slice A1 l1.length c1,.slice A2 l2.length c2] w (fun e w'=>∃ A cap,e= .returned (.slice A (lessR l1 l2).length cap)/\SW b w0 (riOb A (lessR l1 l2)::l) w'/\(lessR l1 l2).length<=cap):=by
 have S0:=hid h;have H1:=hid h1;have H2:=hid h2;clear h h1 h2;go_enter Tryz.func121,Tryz.ntmps121;go_wp2_with fail
 go_loopw [5,6] (fun s5 s6 wr=>∃ (k:Nat) (A:Option Addr) (cap:Nat),k<=l1.length/\s6= .int .i64 (k:Int)/\s5= .slice A (lessR (l1.take k) l2).length cap/\SW b w0 (rowOb 31 2 (.slice A (lessR (l1.take k) l2).length cap) (lessR (l1.take k) l2).length ((lessR (l1.take k) l2).flatMap encID)::l) wr) (fun _ s6 _=>l1.length-(intOf s6).toNat)
 case atStart=>exact ⟨0,none,0,Nat.zero_le _,rfl,rfl,S0.out.newRow 31 2⟩
 obtain ⟨k,A,cap,hk,rfl,rfl,hs⟩:=hrel;have S1:=hid hs;clear hs S0;by_cases hlt:k<l1.length
 · obtain ⟨i,hik⟩:∃ i,l1.getD k id0=i:=⟨_,rfl⟩;obtain ⟨g1,rfl,a0,a1⟩:=S1.out.rowCell (zA _ H1.out) hlt hik
   have hts:l1.take (k+1)=l1.take k++[i]:=by
    rw [List.take_succ_eq_append_getElem hlt, <- hik,zB,zG hlt];rfl
   have HTS:Hid (lessR (l1.take (k+1)) l2=lessR (l1.take k) l2++if i∈l2 then [] else [i]):=by rw [Hid,hts,lessR_snoc]
   have hfl:(lessR (l1.take k) l2).length<=k:=by
    unfold lessR;have:=zH (fun i=> !decide (i∈l2)) (l1.take k);rw [zD] at this;omega
   generalize lessR (l1.take k) l2=F at S1 HTS hfl |-; have HH:Hid (Calls Tryz.prog 49 #[.slice A2 l2.length c2,.agg #[.int .u64 i.1,.int .i64 i.2]] wr (Gives (.bool (decide (i∈l2))) wr)):=rHas_any wr.heap.size l2 A2 c2 i.1 i.2 wr (rdID_of (S1.out.1.holds (riOb A2 l2) (zA _ H2.out))) (by omega);clear hts;go_upto_if 19 with (go_at_call 49;(with_reducible refine HH.out.mono ?_);rintro e w2 ⟨rfl,hb2⟩;have S2:=hid (S1.out.on hb2);clear hb2 S1 HH)
   obtain ⟨g2,e2,a0',a1'⟩:=S2.out.rowCell (zA _ H1.out) hlt hik;injection e2 with e2;injection e2 with e2;subst e2;clear hik a0 a1;obtain ⟨v,hv⟩:∃ v,decide (i∈l2)=v:=⟨_,rfl⟩;cases v with
   | true=>
    rw [if_pos (of_decide_eq_true hv),List.append_nil] at HTS;rw [hv];clear hv;go_wp2_with fail
    go_roundw
    case rel=>
     refine ⟨k+1,A,cap,by omega,by go_num,?_,?_⟩
     · rw [HTS.out]
     rw [HTS.out];exact S2.out
    simp [intOf];omega
   | false=>
    rw [if_neg (of_decide_eq_false hv)] at HTS;rw [hv];clear hv;obtain ⟨i1,gi,gz0,gz1,gz2⟩:=info_parts info31;go_wp2_with (at_builtin;(refine wpList_rowS (t:=38) (e:=31) (size:=2) (bytes:=16) (i:=i1) (S2.out.alloc _) 0 rfl (by rfl) (.tmp 20) (.tmp 25) (by rfl) Tryz.underlying38 gi gz0 gz1 gz2 rfl (by omega) (by rfl) ⟨w2.heap.size,0,none⟩ 1 [.int .u64 i.1,.int .i64 i.2] (by rfl) rfl (two_new w2 _ _ 31 _ rfl) (encID_one i) (by unfold maxLen;omega) (by omega) ?_);refine halt_ ?_)
    intro v4 w4 s4;obtain ⟨g4,c4,rfl⟩:=own_some (s4.get 0 rfl) (by omega)
    have S4:Hid (SW b w0 (rowOb 31 2 (.slice (some ⟨g4,0,none⟩) (F++[i]).length c4) (F++[i]).length ((F++[i]).flatMap encID)::l) w4):=by
     rw [Hid,List.flatMap_append,zC];exact s4
    clear s4 S2 a0' a1';go_wp2_with fail
    go_roundw
    case rel=>
     refine ⟨k+1,some ⟨g4,0,none⟩,c4,by omega,by go_num,?_,?_⟩
     · rw [HTS.out,zC];rfl
     rw [HTS.out];exact S4.out
    simp [intOf];omega
 obtain rfl:k=l1.length:=by omega
 rw [List.take_length] at S1 |-; go_wp2_with fail
 go_ret;exact ⟨A,cap,rfl,S1.out.rowRi,(RowV.of_own (S1.out.get 0 rfl)).2⟩
theorem rStep_S (h:SW b w0 l w) (c:RC) (hm:hdOb c.HA c.hs∈l) (hr:r3Ob c.r∈l) (hd:riOb c.CA c.cd∈l) (n:Int) (hl:c.hs.length<=10000) (hl2:c.cd.length<=10000):Calls Tryz.prog 69 #[.agg #[.slice c.r.A c.r.E.length c.r.c,.slice c.r.B c.r.E.length c.r.k,.slice c.CA c.cd.length c.cc,.slice c.HA c.hs.length c.hc],.int .i64 n] w (fun e w'=>∃ (r':R3) (A1:Option Addr) (c1:Nat) (A2:Option Addr) (c2:Nat),r'.E=remE c.r.E (stR c.hs c.cd n)/\e= .returned (.tuple #[.agg #[.slice r'.A r'.E.length r'.c,.slice r'.B r'.E.length r'.k,.slice A1 (lessR c.cd (stR c.hs c.cd n)).length c1,.slice c.HA c.hs.length c.hc],.slice A2 (stR c.hs c.cd n).length c2])/\SW b w0 (r3Ob r'::riOb A1 (lessR c.cd (stR c.hs c.cd n))::riOb A2 (stR c.hs c.cd n)::l) w'):=by
 obtain ⟨r,CA,cc,cd,HA,hc,hs⟩:=c;simp only at hm hr hd hl hl2 |-; obtain ⟨G,HG⟩:∃ G,Hid (stR hs cd n=G):=⟨_,rfl⟩;rw [HG.out];have S0:Hid (SW b w0 (bgnL (w.heap.size+1) w.heap.size r CA cc cd HA hc hs l) _):=hid ((h.newCell 100 #[.slice r.A r.E.length r.c,.slice r.B r.E.length r.k,.slice CA cd.length cc,.slice HA hs.length hc]).newCellAt 100 #[.slice none 0 0,.slice none 0 0,.slice none 0 0,.slice none 0 0] (H:=w.heap.size+1) (by simp));have HM:Hid (hdOb HA hs∈l):=hm;have HR:Hid (r3Ob r∈l):=hr;have HD:Hid (riOb CA cd∈l):=hd;clear h hm hr hd;go_enter Tryz.func69,Tryz.ntmps69;go_upto_block 0 with fail
 generalize (w.alloc _).alloc _=W1 at S0 |-; go_cut [6] from 26 (fun s6 w'=>∃ A cap,s6= .slice A (hs.map (·.2)).length cap/\SW b w0 (riOb A (hs.map (·.2))::bgnL (w.heap.size+1) w.heap.size r CA cc cd HA hc hs l) w')
 case first=>
  go_wp2_with fail
  go_loopw [6,7] (fun s6 s7 wr=>∃ (k:Nat) (A:Option Addr) (cap:Nat),k<=hs.length/\s7= .int .i64 (k:Int)/\s6= .slice A ((hs.take k).map (·.2)).length cap/\SW b w0 (rowOb 31 2 (.slice A ((hs.take k).map (·.2)).length cap) ((hs.take k).map (·.2)).length (((hs.take k).map (·.2)).flatMap encID)::bgnL (w.heap.size+1) w.heap.size r CA cc cd HA hc hs l) wr) (fun _ s7 _=>hs.length-(intOf s7).toNat)
  case atStart=>exact ⟨0,none,0,Nat.zero_le _,rfl,rfl,S0.out.newRow 31 2⟩
  obtain ⟨k,A,cap,hk,rfl,rfl,hs1⟩:=hrel;have S1:=hid hs1;clear hs1 S0;have c3:=(S1.out.cell 2 rfl).cell 3;by_cases hlt:k<hs.length
  · obtain ⟨e,he⟩:∃ e,hs.getD k hd0=e:=⟨_,rfl⟩;obtain ⟨g,hA,hgl,_,a1,a2⟩:=hd_at (S1.out.1.holds (hdOb HA hs) (by simp [HM.out])) hlt he;have HTS:Hid ((hs.take (k+1)).map (·.2)=(hs.take k).map (·.2)++[e.2]):=by rw [Hid,take_snocD hd0 hlt he,List.map_append];rfl
    have hfl:((hs.take k).map (·.2)).length<=k:=by rw [zE,zD];omega
    generalize (hs.take k).map (·.2)=F at S1 HTS hfl |-; rw [hA] at c3;clear he hA;obtain ⟨i1,gi,gz0,gz1,gz2⟩:=info_parts info31;go_wp2_with (at_builtin;(refine wpList_rowS (t:=38) (e:=31) (size:=2) (bytes:=16) (i:=i1) (S1.out.alloc _) 0 rfl (by rfl) (.tmp 17) (.tmp 24) (by rfl) Tryz.underlying38 gi gz0 gz1 gz2 rfl (by omega) (by rfl) ⟨wr.heap.size,0,none⟩ 1 [.int .u64 e.2.1,.int .i64 e.2.2] (by rfl) rfl (two_new wr _ _ 31 _ rfl) (encID_one e.2) (by unfold maxLen;omega) (by omega) ?_);refine halt_ ?_)
    intro v4 w4 s4;obtain ⟨g4,c4,rfl⟩:=own_some (s4.get 0 rfl) (by omega)
    have S4:Hid (SW b w0 (rowOb 31 2 (.slice (some ⟨g4,0,none⟩) (F++[e.2]).length c4) (F++[e.2]).length ((F++[e.2]).flatMap encID)::bgnL (w.heap.size+1) w.heap.size r CA cc cd HA hc hs l) w4):=by
     rw [Hid,List.flatMap_append,zC];exact s4
    clear s4 S1 c3 a1 a2;go_wp2_with fail
    go_roundw
    case rel=>
     refine ⟨k+1,some ⟨g4,0,none⟩,c4,by omega,by go_num,?_,?_⟩
     · rw [HTS.out,zC];rfl
     rw [HTS.out];exact S4.out
    simp [intOf];omega
  obtain rfl:k=hs.length:=by omega
  rw [List.take_length] at S1 |-; go_wp2_with fail
  go_meet;exact ⟨A,cap,by rw [zE],S1.out.rowRi⟩
 obtain ⟨AH,kH,rfl,s⟩:=hcut;have S1:=hid s;clear s S0;have hhl:(hs.map (·.2)).length<=10000:=by rw [zE];exact hl
 obtain ⟨H,HH⟩:∃ H,Hid (hs.map (·.2)=H):=⟨_,rfl⟩;rw [HH.out] at S1 hhl |-; have HL:=hid (rLessC_any S1.out (A1:=CA) (A2:=AH) (l1:=cd) (l2:=H) (by simp [HD.out]) (by simp) (by omega) (by omega) cc kH);have c2:=(S1.out.cell 2 rfl).cell 2;go_wp2_with (go_at_call 121;(with_reducible refine HL.out.mono ?_);refine halt_ ?_)
 rintro e w2 ⟨AF,kF,rfl,s2,hkF⟩;have hfl:=lessR_le cd H;obtain ⟨F,HF⟩:∃ F,Hid (lessR cd H=F):=⟨_,rfl⟩;rw [HF.out] at s2 hfl hkF |-; clear HL S1 c2;obtain ⟨K,hK1,hK2⟩:∃ K:Nat,max 0 (min n (F.length:Int))=(K:Int)/\K<=F.length:=⟨(max 0 (min n (F.length:Int))).toNat,by omega,by omega⟩
 have HGK:Hid (F.take K=G):=by
  rw [Hid, <- HG.out,stR,HH.out,HF.out];by_cases hn:n.toNat<=F.length
  · congr 1
    omega
  rw [zF (by omega),zF (by omega)]
 have hGl:G.length=K:=by rw [<- HGK.out,zD];omega
 have S2:Hid (SW b w0 (riOb AF G::riOb AF F::riOb AH H::bgnL (w.heap.size+1) w.heap.size r CA cc cd HA hc hs l) w2):=by
  rw [Hid, <- HGK.out];exact s2.riTake K
 clear s2;have hsl:=fun W=>slice_to (w:=W) 38 31 2 AF F.length kF K Tryz.underlying38 sz31 hK2 hkF;have c0:=(S2.out.cell 4 rfl).cell 0;have c1:=(S2.out.cell 4 rfl).cell 1;have HRM:=hid (rRemove_S S2.out (r:=r) (IA:=AF) (ids:=G) (by simp [HR.out]) (by simp) kF (by omega));rw [hGl] at HRM;go_wp2_with (go_at_call 42;(with_reducible refine HRM.out.mono ?_);refine halt_ ?_)
 rintro e w3 ⟨r',hE,rfl,s3⟩;have HE:=hid hE;have S3:=hid s3;clear s3 hE HRM S2 hsl c0 c1;(try clear c2)
 (try clear c3)
 have c0:=(S3.out.cell 5 rfl).cell 0;have c1:=(S3.out.cell 5 rfl).cell 1;have c2:=(S3.out.cell 5 rfl).cell 2;have c3:=(S3.out.cell 5 rfl).cell 3;have f0:=(S3.out.cell 5 rfl).frozen 0;have f1:=(S3.out.cell 5 rfl).frozen 1;have f2:=(S3.out.cell 5 rfl).frozen 2;have f3:=(S3.out.cell 5 rfl).frozen 3;have S4:Hid (SW b w0 (r3Ob r'::riOb AF G::riOb AF F::riOb AH H::cellOb (w.heap.size+1) 100 #[.slice none 0 0,.slice none 0 0,.slice none 0 0,.slice none 0 0]::cellOb w.heap.size 100 #[.slice r'.A r'.E.length r'.c,.slice r'.B r'.E.length r'.k,.slice CA cd.length cc,.slice HA hs.length hc]::l) _):=hid ((S3.out.setAt 5 rfl 0 (.slice r'.A r'.E.length r'.c)).setAt 5 rfl 1 (.slice r'.B r'.E.length r'.k));go_upto_region 9 with fail
 clear c0 c1 c2 c3 f0 f1 f2 f3 S3;obtain ⟨W4,HW4⟩:∃ W4,Hid (_=W4)/\SW b w0 (r3Ob r'::riOb AF G::riOb AF F::riOb AH H::cellOb (w.heap.size+1) 100 #[.slice none 0 0,.slice none 0 0,.slice none 0 0,.slice none 0 0]::cellOb w.heap.size 100 #[.slice r'.A r'.E.length r'.c,.slice r'.B r'.E.length r'.k,.slice CA cd.length cc,.slice HA hs.length hc]::l) W4:=⟨_,rfl,S4.out⟩;rw [HW4.1.out];have S5:=hid HW4.2;clear HW4 S4;have c2:=(S5.out.cell 5 rfl).cell 2;have HL2:=hid (rLess_any S5.out (A1:=CA) (A2:=AF) (l1:=cd) (l2:=G) (by simp [HD.out]) (by simp) (by omega) (by omega) cc kF);rw [hGl] at HL2;go_wp2_with (go_at_call 121;(with_reducible refine HL2.out.mono ?_);refine halt_ ?_)
 rintro e w5 ⟨A1,k1,rfl,s6⟩;obtain ⟨F2,HF2⟩:∃ F2,Hid (lessR cd G=F2):=⟨_,rfl⟩;rw [HF2.out] at s6 |-; have S6:=hid s6;clear s6 HL2 S5 c2;have z2:=(S6.out.cell 6 rfl).cell 2;have f2:=(S6.out.cell 6 rfl).frozen 2;have S7:Hid (SW b w0 (riOb A1 F2::r3Ob r'::riOb AF G::riOb AF F::riOb AH H::cellOb (w.heap.size+1) 100 #[.slice none 0 0,.slice none 0 0,.slice none 0 0,.slice none 0 0]::cellOb w.heap.size 100 #[.slice r'.A r'.E.length r'.c,.slice r'.B r'.E.length r'.k,.slice A1 F2.length k1,.slice HA hs.length hc]::l) _):=hid (S6.out.setAt 6 rfl 2 (.slice A1 F2.length k1));go_upto_region 10 with fail
 clear z2 f2 S6;generalize w5.setCell ⟨w.heap.size,2,none⟩ (.slice A1 F2.length k1)=W7 at S7 |-; have c0:=(S7.out.cell 6 rfl).cell 0;have c1:=(S7.out.cell 6 rfl).cell 1;have c2:=(S7.out.cell 6 rfl).cell 2;have c3:=(S7.out.cell 6 rfl).cell 3;have z0:=(S7.out.cell 5 rfl).cell 0;have z1:=(S7.out.cell 5 rfl).cell 1;have z2:=(S7.out.cell 5 rfl).cell 2;have z3:=(S7.out.cell 5 rfl).cell 3;have f0:=(S7.out.cell 5 rfl).frozen 0;have f1:=(S7.out.cell 5 rfl).frozen 1;have f2:=(S7.out.cell 5 rfl).frozen 2;have f3:=(S7.out.cell 5 rfl).frozen 3;have S8:=hid (((((S7.out.setAt 5 rfl 0 (.slice r'.A r'.E.length r'.c)).setAt 5 rfl 1 (.slice r'.B r'.E.length r'.k)).setAt 5 rfl 2 (.slice A1 F2.length k1)).setAt 5 rfl 3 (.slice HA hs.length hc)));have e0:_=some (Value.slice r'.A r'.E.length r'.c):=(S8.out.cell 5 rfl).cell 0;have e1:_=some (Value.slice r'.B r'.E.length r'.k):=(S8.out.cell 5 rfl).cell 1;have e2:_=some (Value.slice A1 F2.length k1):=(S8.out.cell 5 rfl).cell 2;have e3:_=some (Value.slice HA hs.length hc):=(S8.out.cell 5 rfl).cell 3;have S9:Hid (SW b w0 (r3Ob r'::riOb A1 F2::riOb AF G::l) _):=hid (SW.few (pre:=[_,_,_,_,_,_,_]) S8.out [1,0,2] (n:=7) rfl (by decide) (by decide));clear S8;clear S7;go_wp2_with fail
 refine bodyPost_ret (v:=.tuple #[.agg #[.slice r'.A r'.E.length r'.c,.slice r'.B r'.E.length r'.k,.slice A1 F2.length k1,.slice HA hs.length hc],.slice AF K kF]) ?_ rfl ?_
 · simp [results,Tryz.results69,go_sem,e0,e1,e2,e3]
 have hG:=hGl;have S10:=S9.out;subst hG;have hM:=HF2.out;subst hM;exact ⟨r',A1,k1,AF,kF,HE.out,rfl,S10⟩
end
end
section
open Go.RowKit Go.MapKept Go.ChangeMaps Go.Shelf Go.Sort
structure SesI (c:CR) (hs:List Hold):Prop where
 len:c.se.length=16
 ok:c.ok
 emp:∀ j,(c.ss j).beg=false->(c.ss j).H=[]
 low:∀ j,4<=j->(c.ss j).beg=false
 num:∀ j,(c.ss j).beg=true->0<=(c.ss j).num/\(c.ss j).num<=3
 inj:∀ j k,(c.ss j).beg=true->(c.ss k).beg=true->(c.ss j).num=(c.ss k).num->j=k
 has:∀ j,(c.ss j).beg=true->((c.ss j).num,id0)∈hs
 of:∀ h∈hs,∃ j,(c.ss j).beg=true/\(c.ss j).num=h.1
 held:∀ j,(c.ss j).beg=true->∀ i,i≠id0->((asc (c.ss j).H i).isSome=true↔((c.ss j).num,i)∈hs)
 zero:((hs.filter fun h=>decide (h.2=id0)).map (·.1)).Nodup
theorem fiO_is {p:Ses->Bool} {l:List Ses} {j:Nat} (hj:j<l.length) (h:p (l.getD j ses0)=true):∃ f,fiO p l=some f:=by
 cases ho:fiO p l with
 | some f=>exact ⟨f,rfl⟩
 | none=>
  exfalso
  induction l generalizing j with
  | nil=>simp at hj
  | cons s l ih=>
   unfold fiO at ho;split at ho
   · cases ho
   rename_i hs
   cases j with
   | zero=>exact hs h
   | succ j=>
    cases hf:fiO p l with
    | some k=>rw [hf] at ho;cases ho
    | none=>exact ih (by simpa using hj) (by simpa using h) hf
theorem fiO_no {p:Ses->Bool} {l:List Ses} (h:fiO p l=none) {j:Nat} (hj:j<l.length):p (l.getD j ses0)=false:=by
 cases hp:p (l.getD j ses0) with
 | false=>rfl
 | true=>
  obtain ⟨f,hf⟩:=fiO_is hj hp;rw [h] at hf;cases hf
section
variable {c:CR} {hs:List Hold}
theorem SesI.lt (h:SesI c hs) {j:Nat} (hb:(c.ss j).beg=true):j<4:=by
 by_cases hj:4<=j
 · rw [h.low j hj] at hb;cases hb
 omega
theorem SesI.start (h:c.se=List.replicate 16 ses0):SesI c []:=by
 have hz:∀ j,c.ss j=ses0:=fun j=>by
  show c.se.getD j ses0=_;rw [h,zB,List.getElem?_replicate];split<;>rfl
 have hb:∀ j,(c.ss j).beg=false:=fun j=>by rw [hz]
 refine ⟨by rw [h];simp,ok_start h,fun j _=>by rw [hz],fun j _=>hb j,fun j hj=>?_,fun j k hj=>?_,fun j hj=>?_,fun h hh=>(by cases hh),fun j hj=>?_,by simp⟩<;>(rw [hb j] at hj;cases hj)
theorem SesI.begun (h:SesI c hs) (N:Int):begH hs N=(fiO (pNum N) c.se).isSome:=by
 rw [Bool.eq_iff_iff];constructor
 · intro hb;obtain ⟨e,he,hn⟩:=List.any_eq_true.1 hb;have hn:e.1=N:=by simpa using hn
   obtain ⟨j,h1,h2⟩:=h.of e he;have hj:=h.lt h1
   obtain ⟨f,hf⟩:=fiO_is (p:=pNum N) (l:=c.se) (j:=j) (by rw [h.len];omega) (by
    show ((c.ss j).beg&&((c.ss j).num==N))=true;rw [h1,h2,hn];simp)
   rw [hf];rfl
 intro hb;obtain ⟨f,hf⟩:=Option.isSome_iff_exists.1 hb;obtain ⟨hl,hp⟩:=fiO_lt hf;have hp:((c.ss f).beg&&((c.ss f).num==N))=true:=hp;rw [Bool.and_eq_true] at hp;have hn:(c.ss f).num=N:=by simpa using hp.2
 rw [begH,List.any_eq_true];exact ⟨_,h.has f hp.1,by rw [show ((c.ss f).num,id0).1=N from hn];simp⟩
theorem SesI.heldC (h:SesI c hs) {i:ID} (hi:i≠id0):Go.Proofs.YteabgcollokgjaaGreatDoor.heldC c i=decide (i∈hs.map (·.2)):=by
 rw [Bool.eq_iff_iff,held_iff,decide_eq_true_eq];constructor
 · rintro ⟨j,hj,hx⟩;cases hb:(c.ss j).beg with
   | false=>rw [h.emp j hb] at hx;cases hx
   | true=>exact List.mem_map.2 ⟨_,(h.held j hb i hi).1 hx,rfl⟩
 intro hm;obtain ⟨e,he,rfl⟩:=List.mem_map.1 hm;obtain ⟨j,h1,h2⟩:=h.of e he;refine ⟨j,by rw [h.len];have:=h.lt h1;omega,(h.held j h1 _ hi).2 ?_⟩;rw [h2];exact he
theorem SesI.zeros (h:SesI c hs):zerosH hs<=4:=by
 have:=len_le_sub ((hs.filter fun h=>decide (h.2=id0)).map (·.1)) [0,1,2,3] h.zero (fun a ha=>by
  obtain ⟨e,he,rfl⟩:=List.mem_map.1 ha;obtain ⟨j,h1,h2⟩:=h.of e (List.mem_filter.1 he).1;obtain ⟨h3,h4⟩:=h.num j h1;rw [h2] at h3 h4;simp only [List.mem_cons,List.not_mem_nil,or_false];omega)
 rw [zE] at this;exact this
theorem SesI.free (h:SesI c hs) {N:Int} (h0:0<=N) (h3:N<=3) (ho:fiO (pNum N) c.se=none):∃ f,fiO pFree c.se=some f/\f<4:=by
 have hne:∀ j,j<4->(c.ss j).beg=true->(c.ss j).num≠N:=fun j hj hb e=>by
  have:=fiO_no ho (j:=j) (by rw [h.len];omega);have:((c.ss j).beg&&((c.ss j).num==N))=false:=this;rw [hb,e] at this;simp at this
 have key:∃ j,j<4/\(c.ss j).beg=false:=by
  by_cases b0:(c.ss 0).beg=true
  · by_cases b1:(c.ss 1).beg=true
    · by_cases b2:(c.ss 2).beg=true
      · by_cases b3:(c.ss 3).beg=true
        · exfalso
          have n0:=h.num 0 b0;have n1:=h.num 1 b1;have n2:=h.num 2 b2;have n3:=h.num 3 b3;have m0:=hne 0 (by omega) b0;have m1:=hne 1 (by omega) b1;have m2:=hne 2 (by omega) b2;have m3:=hne 3 (by omega) b3;have i01:(c.ss 0).num≠(c.ss 1).num:=fun e=>by have:=h.inj 0 1 b0 b1 e;omega
          have i02:(c.ss 0).num≠(c.ss 2).num:=fun e=>by have:=h.inj 0 2 b0 b2 e;omega
          have i03:(c.ss 0).num≠(c.ss 3).num:=fun e=>by have:=h.inj 0 3 b0 b3 e;omega
          have i12:(c.ss 1).num≠(c.ss 2).num:=fun e=>by have:=h.inj 1 2 b1 b2 e;omega
          have i13:(c.ss 1).num≠(c.ss 3).num:=fun e=>by have:=h.inj 1 3 b1 b3 e;omega
          have i23:(c.ss 2).num≠(c.ss 3).num:=fun e=>by have:=h.inj 2 3 b2 b3 e;omega
          generalize (c.ss 0).num=a0 at *; generalize (c.ss 1).num=a1 at *; generalize (c.ss 2).num=a2 at *; generalize (c.ss 3).num=a3 at *; omega
        exact ⟨3,by omega,by simpa using b3⟩
      exact ⟨2,by omega,by simpa using b2⟩
    exact ⟨1,by omega,by simpa using b1⟩
  exact ⟨0,by omega,by simpa using b0⟩
 obtain ⟨j,hj,hb⟩:=key
 have hp:pFree (c.se.getD j ses0)=true:=by
  show (!(c.ss j).beg)=true;rw [hb];rfl
 obtain ⟨f,hf⟩:=fiO_is (by rw [h.len];omega) hp;refine ⟨f,hf,?_⟩;by_cases hfj:f<=j
 · omega
 exfalso
 have:∀ (l:List Ses) (j f:Nat),fiO pFree l=some f->j<f->pFree (l.getD j ses0)=false:=by
  intro l;induction l with
  | nil=>intro j f h;cases h
  | cons s l ih=>
   intro j f h hjf;unfold fiO at h;split at h
   · injection h with h;omega
   rename_i hs
   cases hk:fiO pFree l with
   | none=>rw [hk] at h;cases h
   | some k=>
    rw [hk] at h;have h:k+1=f:=by simpa using h
    cases j with
    | zero=>simpa using hs
    | succ j=>exact ih j k hk (by omega)
 rw [this _ _ _ hf (by omega)] at hp;cases hp
end
section
variable {c:CR} {hs:List Hold} {N:Int} {f m:Nat} {i:ID}
theorem fiO_num (ho:fiO (pNum N) c.se=some f):f<c.se.length/\(c.ss f).beg=true/\(c.ss f).num=N:=by
 obtain ⟨h1,h2⟩:=fiO_lt ho;have h2:((c.ss f).beg&&((c.ss f).num==N))=true:=h2;rw [Bool.and_eq_true] at h2;exact ⟨h1,h2.1,by simpa using h2.2⟩
theorem ok_upd {c c':CR} {f:Nat} {s:Ses} (hok:c.ok) (hl:c'.se.length=c.se.length) (hat:∀ j,c'.ss j=if j=f then s else c.ss j) (hs:s.beg=s.hm.isSome):c'.ok:=ok_of (fun j hj=>by
 rw [hat];split
 · exact hs
 exact ok_ss hok j (by rw [<- hl];exact hj))
theorem SesI.beginN (h:SesI c hs) (h0:0<=N) (h3:N<=3) (ho:fiO (pNum N) c.se=none) (hf:fiO pFree c.se=some f) (hf4:f<4):SesI (c.begun f N m) (hs++[(N,id0)]):=by
 have hfl:=(fiO_lt hf).1
 have hb:(c.ss f).beg=false:=by
  have hp:(!(c.ss f).beg)=true:=(fiO_lt hf).2;simpa using hp
 have hat:∀ j,(c.begun f N m).ss j=if j=f then ⟨N,true,some m,[]⟩ else c.ss j:=fun j=>begun_at hfl j
 have hbg:begH hs N=false:=by rw [h.begun,ho];rfl
 have hno:∀ e∈hs,e.1≠N:=fun e he hn=>by
  have:begH hs N=true:=List.any_eq_true.2 ⟨e,he,by simp [hn]⟩;rw [hbg] at this;cases this
 refine ⟨begun_len.trans h.len,ok_upd h.ok begun_len hat rfl,fun j hj=>?_,fun j hj=>?_,fun j hj=>?_,fun j k hj hk he=>?_,fun j hj=>?_,fun e he=>?_,fun j hj k hk=>?_,?_⟩
 · rw [hat] at hj |-; split
   · rfl
   rename_i hn
   rw [if_neg hn] at hj;exact h.emp j hj
 · rw [hat,if_neg (by omega)];exact h.low j hj
 · rw [hat] at hj |-; split
   · exact ⟨h0,h3⟩
   rename_i hn
   rw [if_neg hn] at hj;exact h.num j hj
 · rw [hat] at hj he;rw [hat] at hk he;by_cases e1:j=f<;>by_cases e2:k=f
   · omega
   · rw [if_neg e2] at hk;rw [if_pos e1,if_neg e2] at he;exact absurd he.symm (hno _ (h.has k hk))
   · rw [if_neg e1] at hj;rw [if_neg e1,if_pos e2] at he;exact absurd he (hno _ (h.has j hj))
   rw [if_neg e1] at hj;rw [if_neg e2] at hk;rw [if_neg e1,if_neg e2] at he;exact h.inj j k hj hk he
 · rw [hat] at hj |-; split
   · simp
   rename_i hn
   rw [if_neg hn] at hj;exact List.mem_append_left _ (h.has j hj)
 · rcases List.mem_append.1 he with he | he
   · obtain ⟨j,h1,h2⟩:=h.of e he;have hjf:j≠f:=fun e=>by rw [e,hb] at h1;cases h1
     exact ⟨j,by rw [hat,if_neg hjf];exact h1,by rw [hat,if_neg hjf];exact h2⟩
   rw [List.mem_singleton.1 he];exact ⟨f,by rw [hat,if_pos rfl],by rw [hat,if_pos rfl]⟩
 · rw [hat] at hj |-
   have hlast:∀ n:Int,(n,k)∈hs++[(N,id0)]↔(n,k)∈hs:=fun n=>by
    rw [List.mem_append,List.mem_singleton];constructor
    · rintro (h1 | h1)
      · exact h1
      injection h1 with _ h1;exact absurd h1 hk
    exact .inl
   rw [hlast];split
   · constructor
     · intro hx;cases hx
     intro hx;exact absurd rfl (hno _ hx)
   rename_i hn
   rw [if_neg hn] at hj;exact h.held j hj k hk
 rw [List.filter_append,List.map_append,List.nodup_append];refine ⟨h.zero,by simp,fun a ha k hk hak=>?_⟩;subst hak;obtain ⟨e,he,rfl⟩:=List.mem_map.1 ha;have:e.1=N:=by simpa using hk
 exact hno e (List.mem_filter.1 he).1 this
theorem SesI.endN (h:SesI c hs) (ho:fiO (pNum N) c.se=some f):SesI (c.ended f) (endH hs N):=by
 obtain ⟨hfl,hb,hn⟩:=fiO_num ho;have hat:∀ j,(c.ended f).ss j=if j=f then ⟨(c.ss f).num,false,none,[]⟩ else c.ss j:=fun j=>ended_at hfl j
 have hbt:∀ {j},((c.ended f).ss j).beg=true->j≠f/\(c.ss j).beg=true/\(c.ended f).ss j=c.ss j/\(c.ss j).num≠N:=fun {j} hj=>by
  have e:j≠f:=fun e=>by rw [hat,if_pos e] at hj;cases hj
  have e2:(c.ended f).ss j=c.ss j:=by rw [hat,if_neg e]
  rw [e2] at hj;exact ⟨e,hj,e2,fun e3=>e (h.inj j f hj hb (e3.trans hn.symm))⟩
 have hme:∀ n k,n≠N->((n,k)∈endH hs N↔(n,k)∈hs):=fun n k hnn=>by
  unfold endH;rw [List.mem_filter];simp [hnn]
 refine ⟨ended_len.trans h.len,ok_upd h.ok ended_len hat rfl,fun j hj=>?_,fun j hj=>?_,fun j hj=>?_,fun j k hj hk he=>?_,fun j hj=>?_,fun e he=>?_,fun j hj k hk=>?_,?_⟩
 · rw [hat] at hj |-; split
   · rfl
   rename_i hn
   rw [if_neg hn] at hj;exact h.emp j hj
 · rw [hat];split
   · rfl
   exact h.low j hj
 · obtain ⟨_,h1,e,_⟩:=hbt hj;rw [e];exact h.num j h1
 · obtain ⟨_,h1,e1,_⟩:=hbt hj;obtain ⟨_,h2,e2,_⟩:=hbt hk;rw [e1,e2] at he;exact h.inj j k h1 h2 he
 · obtain ⟨_,h1,e,h2⟩:=hbt hj;rw [e];exact (hme _ _ h2).2 (h.has j h1)
 · obtain ⟨he,hq⟩:=List.mem_filter.1 he;have hq:e.1≠N:=by simpa using hq
   obtain ⟨j,h1,h2⟩:=h.of e he;have hjf:j≠f:=fun e=>by rw [e,hn] at h2;exact hq h2.symm
   exact ⟨j,by rw [hat,if_neg hjf];exact h1,by rw [hat,if_neg hjf];exact h2⟩
 · obtain ⟨_,h1,e,h2⟩:=hbt hj;rw [e,hme _ _ h2];exact h.held j h1 k hk
 refine h.zero.sublist (List.Sublist.map _ ?_);exact List.Sublist.filter _ List.filter_sublist
theorem SesI.hold (h:SesI c hs) (ho:fiO (pNum N) c.se=some f) (hi:i≠id0):SesI (c.hold f i) (hs++[(N,i)]):=by
 obtain ⟨hfl,hb,hn⟩:=fiO_num ho;have hl:(c.hold f i).se.length=c.se.length:=by simp [CR.hold,CR.put]
 have hat:∀ j,(c.hold f i).ss j=if j=f then { c.ss f with H:=setL (c.ss f).H i () } else c.ss j:=fun j=>hold_at hfl j
 have hbe:∀ j,((c.hold f i).ss j).beg=(c.ss j).beg/\((c.hold f i).ss j).num=(c.ss j).num:=fun j=>by
  rw [hat];split
  · rename_i e
    subst e;exact ⟨rfl,rfl⟩
  exact ⟨rfl,rfl⟩
 refine ⟨hl.trans h.len,ok_upd h.ok hl hat (ok_ss h.ok f hfl),fun j hj=>?_,fun j hj=>?_,fun j hj=>?_,fun j k hj hk he=>?_,fun j hj=>?_,fun e he=>?_,fun j hj k hk=>?_,?_⟩
 · rw [(hbe j).1] at hj;rw [hat,if_neg (fun e=>by rw [e,hb] at hj;cases hj)];exact h.emp j hj
 · rw [(hbe j).1];exact h.low j hj
 · rw [(hbe j).1] at hj;rw [(hbe j).2];exact h.num j hj
 · rw [(hbe j).1] at hj;rw [(hbe k).1] at hk;rw [(hbe j).2,(hbe k).2] at he;exact h.inj j k hj hk he
 · rw [(hbe j).1] at hj;rw [(hbe j).2];exact List.mem_append_left _ (h.has j hj)
 · rcases List.mem_append.1 he with he | he
   · obtain ⟨j,h1,h2⟩:=h.of e he;exact ⟨j,by rw [(hbe j).1];exact h1,by rw [(hbe j).2];exact h2⟩
   rw [List.mem_singleton.1 he];exact ⟨f,by rw [(hbe f).1];exact hb,by rw [(hbe f).2];exact hn⟩
 · rw [(hbe j).1] at hj;rw [(hbe j).2,hat,List.mem_append,List.mem_singleton];by_cases e:j=f
   · subst e;rw [if_pos rfl];show (asc (setL (c.ss j).H i ()) k).isSome=true↔_;rw [asc_setL];by_cases e2:i=k
     · subst e2;rw [if_pos rfl,hn];simp
     rw [if_neg e2,h.held j hj k hk];constructor
     · exact .inl
     rintro (h1 | h1)
     · exact h1
     injection h1 with _ h1;exact absurd h1.symm e2
   rw [if_neg e,h.held j hj k hk];constructor
   · exact .inl
   rintro (h1 | h1)
   · exact h1
   injection h1 with h1 _;exact absurd (h.inj j f hj hb (h1.trans hn.symm)) e
 rw [List.filter_append];have e:[((N,i):Hold)].filter (fun h=>decide (h.2=id0))=[]:=by simp [hi]
 rw [e,List.append_nil];exact h.zero
end
section
variable {b:Nat} {w0 w:World} {l:List Ob} {c:CR} {hs:List Hold}
structure OnlyS (c c':CR):Prop where
 cp:c'.cp=c.cp
 ps:c'.ps=c.ps
 cand:c'.cand=c.cand
theorem Begin_P (h:SW b w0 (coOb c::l) w) (hI:SesI c hs) (N:Int) (h3:N<=3) {v:Bool} (hv:(decide (N<0)||begH hs N||decide (16<=zerosH hs))=v):Calls Tryz.prog 71 #[vPtr c.cp,.int .i64 N] w (fun e w'=>∃ c',e= .returned (.int .i64 (if v=true then 401 else 0))/\SW b w0 (coOb c'::l) w'/\OnlyS c c'/\SesI c' (if v=true then hs else hs++[(N,id0)])):=by
 have hz:=hI.zeros;rw [hI.begun,decide_eq_false (show ¬ 16<=zerosH hs by omega),Bool.or_false] at hv;by_cases hN:N<0
 · have hv:v=true:=by rw [<- hv];simp [hN]
   subst hv;refine (Begin_neg h N hN).mono ?_;rintro e w' ⟨rfl,s⟩;exact ⟨c,rfl,s,⟨rfl,rfl,rfl⟩,hI⟩
 rw [decide_eq_false hN,Bool.false_or] at hv;cases hg:fiO (pNum N) c.se with
 | some g=>
  rw [hg] at hv;subst hv;cases ho:fiO pFree c.se with
  | none=>
   refine (Begin_full h N (by omega) ho).mono ?_;rintro e w' ⟨rfl,s⟩;exact ⟨c,rfl,s,⟨rfl,rfl,rfl⟩,hI⟩
  | some f=>
   refine (Begin_twice h N (by omega) f g ho hg).mono ?_;rintro e w' ⟨rfl,s⟩;exact ⟨c,rfl,s,⟨rfl,rfl,rfl⟩,hI⟩
 | none=>
  rw [hg] at hv;subst hv;obtain ⟨f,ho,hf4⟩:=hI.free (by omega) h3 hg;refine (Begin_new h N (by omega) f ho hg).mono ?_;rintro e w' ⟨rfl,m,s⟩;exact ⟨_,rfl,s,⟨rfl,rfl,rfl⟩,hI.beginN (by omega) h3 hg ho hf4⟩
theorem End_P (h:SW b w0 (coOb c::l) w) (hI:SesI c hs) (N:Int) {v:Bool} (hv:begH hs N=v):Calls Tryz.prog 67 #[vPtr c.cp,.int .i64 N] w (fun e w'=>∃ c',e= .returned (.int .i64 (if v=true then 0 else 401))/\SW b w0 (coOb c'::l) w'/\OnlyS c c'/\SesI c' (if v=true then endH hs N else hs)):=by
 rw [hI.begun] at hv;cases ho:fiO (pNum N) c.se with
 | none=>
  rw [ho] at hv;subst hv;refine (End_none h N ho).mono ?_;rintro e w' ⟨rfl,s⟩;exact ⟨c,rfl,s,⟨rfl,rfl,rfl⟩,hI⟩
 | some f=>
  rw [ho] at hv;subst hv;refine (End_some h N f ho).mono ?_;rintro e w' ⟨rfl,s⟩;exact ⟨_,rfl,s,⟨rfl,rfl,rfl⟩,hI.endN ho⟩
theorem SesI.map (hI:SesI c hs) {N:Int} {f:Nat} (ho:fiO (pNum N) c.se=some f):∃ m,(c.ss f).hm=some m:=by
 obtain ⟨hf,hb,_⟩:=fiO_num ho;have:=ok_ss hI.ok f hf;rw [hb] at this;cases hx:(c.ss f).hm with
 | none=>rw [hx] at this;cases this
 | some m=>exact ⟨m,rfl⟩
theorem Touch_P {x:SR} (h:SW b w0 (coOb c::x.obs l) w) (hI:SesI c hs) (hps:c.ps=x.ps) (N:Int) (i:ID) (hi:okID i) (hz:i≠id0∨(asc x.C i).isSome=false) {v u:Bool} (hv:begH hs N=v) (hu:(asc x.C i).isSome=u):
 Calls Tryz.prog 73 #[vPtr c.cp,.int .i64 N,.agg #[.int .u64 i.1,.int .i64 i.2]] w (fun e w'=>∃ c',e= .returned (.tuple #[.bool (v&&u),.int .i64 (if v=true then 0 else 401)])/\SW b w0 (coOb c'::x.obs l) w'/\OnlyS c c'/\SesI c' (if (v&&u)=true then hs++[(N,i)] else hs)):=by
 rw [hI.begun] at hv;cases ho:fiO (pNum N) c.se with
 | none=>
  rw [ho] at hv;subst hv;refine (Touch_none h N ho i).mono ?_;rintro e w' ⟨rfl,s⟩;exact ⟨c,rfl,s,⟨rfl,rfl,rfl⟩,hI⟩
 | some f=>
  rw [ho] at hv;subst hv;cases u with
  | false=>
   refine (Touch_lost h N f ho i (HasC_of hps i hi hu)).mono ?_;rintro e w' ⟨rfl,s⟩;exact ⟨c,rfl,s,⟨rfl,rfl,rfl⟩,hI⟩
  | true=>
   obtain ⟨m,hm⟩:=hI.map ho;have hz:i≠id0:=hz.resolve_right (by rw [hu];simp);refine (Touch_held h N f ho m hm i hi (HasC_of hps i hi hu)).mono ?_;rintro e w' ⟨rfl,s⟩;exact ⟨c.hold f i,rfl,s,⟨rfl,rfl,rfl⟩,hI.hold ho hz⟩
end
end
section
open Go.RowKit Go.MapKept Go.ChangeMaps Go.Shelf Go.Sort
attribute [local go_sem] wext_cell
abbrev plC (tg dp sp kp:Nat) (r:RC):Array Value:= #[vPtr tg,vPtr dp,vPtr sp,vPtr kp,.slice r.r.A r.r.E.length r.r.c,.slice r.r.B r.r.E.length r.r.k,.slice r.CA r.cd.length r.cc,.slice r.HA r.hs.length r.hc]
abbrev plL (c:CR) (x:SR) (tg:Nat) (A:Option Addr) (cap:Nat) (L:List Int) (n g3 dp sp kp:Nat) (r:RC) (R:List Ob):List Ob:=
 coOb c::x.obs (tpOb tg A cap L n::cellOb g3 102 (plC tg dp sp kp r)::r3Ob r.r::riOb r.CA r.cd::hdOb r.HA r.hs::R)
theorem tnext_lt (L:List Int) (n:Nat) {K:Int} (h:0<K):0<=tnext L n K/\tnext L n K<K:=by
 obtain ⟨h1,h2⟩:=tnext_in L n K;refine ⟨h1,?_⟩;by_cases hk:1<K
 · exact h2 hk
 obtain rfl:K=1:=by omega
 have:tnext L n 1=0:=rfl;omega
abbrev IdP (b:Nat) (w0:World) (c:CR) (x:SR) (tg:Nat) (A:Option Addr) (cap:Nat) (L:List Int) (n g3 dp sp kp:Nat) (r:RC) (R:List Ob) (e:Ending) (w':World):Prop:=
 ∃ bs n',IsText bs/\n'<=n+8/\e= .returned (.agg #[.int .u64 (fpOf bs).1,.int .i64 (fpOf bs).2])/\SW b w0 (plL c x tg A cap L n' g3 dp sp kp r R) w'
section
variable {b:Nat} {w0 w:World} {c:CR} {x:SR} {tg:Nat} {A:Option Addr} {cap:Nat} {L:List Int} {n g3 dp sp kp:Nat} {r:RC} {R:List Ob}
theorem id_any (h:SW b w0 (plL c x tg A cap L n g3 dp sp kp r R) w) {P:List (List UInt8)} (hP:RTX r.r P) (hn:n<=900000):Calls Tryz.prog 116 #[vPtr g3] w (IdP b w0 c x tg A cap L n g3 dp sp kp r R):=by
 have S0:Hid (SW b w0 (cellOb w.heap.size 31 #[.int .u64 0,.int .i64 0]::plL c x tg A cap L n g3 dp sp kp r R) _):=hid (h.newCell 31 #[.int .u64 0,.int .i64 0]);have HP:=hid hP;clear h hP;go_enter Tryz.func116,Tryz.ntmps116;go_upto_region 1 with fail
 generalize w.alloc _=W at S0 |-; have c0:=(S0.out.cell 7 rfl).cell 0;obtain ⟨K,HK⟩:∃ K,Hid (r.r.E.length=K):=⟨_,rfl⟩
 have hKn:K<=100000:=by
  rw [<- HK.out];exact (S0.out.get 8 (o:=r3Ob r.r) rfl:R3Ok W r.r).n
 have c4:W.cell? ⟨g3,4,none⟩=some (.slice r.r.A K r.r.c):=by
  rw [<- HK.out];exact (S0.out.cell 7 rfl).cell 4
 by_cases hK:K=0
 · have hd:decide ((K:Int)>0)=false:=decide_eq_false (by omega);go_upto_region 4 with fail
   have S1:=S0;clear S0 c0 c4;have c0:=(S1.out.cell 7 rfl).cell 0;have HT:=hid (text74_x S1.out 6 rfl (by omega));have HX:=hid (textB_is L n);have htn:=(textN_in L n).2;go_wp2_with (go_at_call 74;(with_reducible refine HT.out.mono ?_);refine halt_ ?_)
   rintro e w2 ⟨d,rfl,s2⟩;obtain ⟨bs,HBS⟩:∃ bs,Hid (textB L n=bs):=⟨_,rfl⟩;rw [HBS.out] at s2 HX;have S2:Hid (SW b w0 (bufOb d bs::cellOb w.heap.size 31 #[.int .u64 0,.int .i64 0]::plL c x tg A cap L (n+1+textN L n) g3 dp sp kp r R) w2):=s2;have hrb:RB w2 d bs:=S2.out.get 0 (o:=bufOb d bs) rfl;have hdl:d.len=bs.length:=hrb.1.symm;have HOF:=hid (Of_any d.A d.cap bs w2 hrb.rs (by have:=HX.out.hi;omega));rw [hdl];clear s2 HT S1 c0 hrb hdl;go_wp2_with (go_at_call 31;(with_reducible refine HOF.out.mono ?_);refine halt_ ?_)
   rintro e w3 ⟨rfl,hb3⟩;have S3:=hid (S2.out.on hb3);clear hb3 HOF S2;obtain ⟨i,HI⟩:∃ i,Hid (fpOf bs=i):=⟨_,rfl⟩;rw [HI.out];have z0:=(S3.out.cell 1 rfl).cell 0;have z1:=(S3.out.cell 1 rfl).cell 1;have f0:=(S3.out.cell 1 rfl).frozen 0;have f1:=(S3.out.cell 1 rfl).frozen 1;have S4:=hid ((S3.out.setAt 1 rfl 0 (.int .u64 i.1)).setAt 1 rfl 1 (.int .i64 i.2));have e0:_=some (Value.int .u64 i.1):=(S4.out.cell 1 rfl).cell 0;have e1:_=some (Value.int .i64 i.2):=(S4.out.cell 1 rfl).cell 1;clear S3;go_wp2_with fail
   refine bodyPost_ret (v:=.agg #[.int .u64 i.1,.int .i64 i.2]) ?_ rfl ?_
   · simp [results,Tryz.results116,go_sem,e0,e1]
   exact ⟨bs,n+1+textN L n,HX.out,by omega,by rw [HI.out],S4.out.tail.tail⟩
 have hd:decide ((K:Int)>0)=true:=decide_eq_true (by omega);have HNX:=hid (Next_x S0.out 6 rfl 4 (by omega) (by omega));go_wp2_with (go_at_call 33;(with_reducible refine HNX.out.mono ?_);refine halt_ ?_)
 rintro e w1 ⟨rfl,s1⟩;have S1:Hid (SW b w0 (cellOb w.heap.size 31 #[.int .u64 0,.int .i64 0]::plL c x tg A cap L (n+1) g3 dp sp kp r R) w1):=s1;clear s1 HNX S0 c0 c4;obtain ⟨v,HV⟩:∃ v,Hid (tnext L n 4=v):=⟨_,rfl⟩;rw [HV.out];by_cases hv:v>0
 · have hdv:decide (v>0)=true:=decide_eq_true hv;have c0:=(S1.out.cell 7 rfl).cell 0
   have c4:w1.cell? ⟨g3,4,none⟩=some (.slice r.r.A K r.r.c):=by
    rw [<- HK.out];exact (S1.out.cell 7 rfl).cell 4
   go_upto_region 3 with fail
   have S2:Hid (SW b w0 (cellOb w.heap.size 31 #[.int .u64 0,.int .i64 0]::plL c x tg A cap L (n+1) g3 dp sp kp r R) w1.drew):=hid S1.out.drew;have HNX:=hid (Next_x S2.out 6 rfl (K:Int) (by omega) (by omega))
   obtain ⟨q,hq,hqK⟩:∃ q:Nat,tnext L (n+1) (K:Int)=(q:Int)/\q<K:=by
    obtain ⟨h1,h2⟩:=tnext_lt L (n+1) (K:=(K:Int)) (by omega);exact ⟨(tnext L (n+1) (K:Int)).toNat,by omega,by omega⟩
   rw [hq] at HNX;clear hq S1;refine wp_region_held_tail [(0,true),(1,true),(2,true),(3,true),(4,true),(5,true),(6,true),(7,true),(8,true),(9,true),(10,true),(11,false)] (fun w'=>w'.cell? ⟨g3,0,none⟩=some (vPtr tg)/\w'.cell? ⟨g3,4,none⟩=some (.slice r.r.A K r.r.c)) (by kernel_rfl) (fun _ _ d _ _ h=>by cases d<;>exact h) (by kernel_rfl) (⟨c0,c4⟩) ?_;simp only [pk_]
   iterate 11
    (refine wpHeld_take (v:=?_) (Or.inl ⟨by rfl,?_⟩) ?_
     rotate_left
     · (intro w' hSw;obtain ⟨h1,h2⟩:=hSw;go_simp;try with_reducible rfl)
     try simp only [Act.put,zI,List.set])
   refine wpHeld_run (fun KK hKK=>?_);go_simp;go_at_call 33
   refine HNX.out.mono ?_;rintro e w3 ⟨rfl,s3⟩;have S3:Hid (SW b w0 (cellOb w.heap.size 31 #[.int .u64 0,.int .i64 0]::plL c x tg A cap L (n+1+1) g3 dp sp kp r R) w3):=s3;clear s3;go_wp2_with fail
   refine hKK.out _ _ ⟨(S3.out.cell 7 rfl).cell 0,by rw [<- HK.out];exact (S3.out.cell 7 rfl).cell 4⟩ ?_;clear hKK KK;try simp only [Act.put,zI,List.set]
   refine wpHeld_nil ?_;simp only [dz_];obtain ⟨e,he⟩:∃ e,r.r.E.getD q re0=e:=⟨_,rfl⟩;have hqE:q<r.r.E.length:=by have:=HK.out;omega
   obtain ⟨gE,hA,hgl,a0,a1,_⟩:=(S3.out.get 8 (o:=r3Ob r.r) rfl:R3Ok w3 r.r).chunk hqE he
   have HE:Hid (∃ bs,IsText bs/\fpOf bs=e.id):=by
    have hm:e∈r.r.E:=by
     rw [<- he,zB,zG hqE];exact List.getElem_mem hqE
    obtain ⟨h1,h2⟩:=HP.out.val e hm;exact ⟨e.bs,h2,h1⟩
   have z0:=(S3.out.cell 0 rfl).cell 0;have z1:=(S3.out.cell 0 rfl).cell 1;have f0:=(S3.out.cell 0 rfl).frozen 0;have f1:=(S3.out.cell 0 rfl).frozen 1;rw [hA];have S4:=hid ((S3.out.setAt 0 rfl 0 (.int .u64 e.id.1)).setAt 0 rfl 1 (.int .i64 e.id.2));have e0:_=some (Value.int .u64 e.id.1):=(S4.out.cell 0 rfl).cell 0;have e1:_=some (Value.int .i64 e.id.2):=(S4.out.cell 0 rfl).cell 1;clear S3 he hA;go_wp2_with fail
   refine bodyPost_ret (v:=.agg #[.int .u64 e.id.1,.int .i64 e.id.2]) ?_ rfl ?_
   · simp [results,Tryz.results116,go_sem,e0,e1]
   obtain ⟨bs,ht,hf⟩:=HE.out;exact ⟨bs,n+1+1,ht,by omega,by rw [hf],S4.out.tail⟩
 have hdv:decide (v>0)=false:=decide_eq_false hv;have c0:=(S1.out.cell 7 rfl).cell 0;have HT:=hid (text74_x S1.out 6 rfl (by omega));have HX:=hid (textB_is L (n+1));have htn:=(textN_in L (n+1)).2;go_wp2_with (go_at_call 74;(with_reducible refine HT.out.mono ?_);refine halt_ ?_)
 rintro e w2 ⟨d,rfl,s2⟩;obtain ⟨bs,HBS⟩:∃ bs,Hid (textB L (n+1)=bs):=⟨_,rfl⟩;rw [HBS.out] at s2 HX;have S2:Hid (SW b w0 (bufOb d bs::cellOb w.heap.size 31 #[.int .u64 0,.int .i64 0]::plL c x tg A cap L ((n+1)+1+textN L (n+1)) g3 dp sp kp r R) w2):=s2;have hrb:RB w2 d bs:=S2.out.get 0 (o:=bufOb d bs) rfl;have hdl:d.len=bs.length:=hrb.1.symm;have HOF:=hid (Of_any d.A d.cap bs w2 hrb.rs (by have:=HX.out.hi;omega));rw [hdl];clear s2 HT S1 c0 hrb hdl;go_wp2_with (go_at_call 31;(with_reducible refine HOF.out.mono ?_);refine halt_ ?_)
 rintro e w3 ⟨rfl,hb3⟩;have S3:=hid (S2.out.on hb3);clear hb3 HOF S2;obtain ⟨i,HI⟩:∃ i,Hid (fpOf bs=i):=⟨_,rfl⟩;rw [HI.out];have z0:=(S3.out.cell 1 rfl).cell 0;have z1:=(S3.out.cell 1 rfl).cell 1;have f0:=(S3.out.cell 1 rfl).frozen 0;have f1:=(S3.out.cell 1 rfl).frozen 1;have S4:=hid ((S3.out.setAt 1 rfl 0 (.int .u64 i.1)).setAt 1 rfl 1 (.int .i64 i.2));have e0:_=some (Value.int .u64 i.1):=(S4.out.cell 1 rfl).cell 0;have e1:_=some (Value.int .i64 i.2):=(S4.out.cell 1 rfl).cell 1;clear S3;go_wp2_with fail
 refine bodyPost_ret (v:=.agg #[.int .u64 i.1,.int .i64 i.2]) ?_ rfl ?_
 · simp [results,Tryz.results116,go_sem,e0,e1]
 exact ⟨bs,(n+1)+1+textN L (n+1),HX.out,by omega,by rw [HI.out],S4.out.tail.tail⟩
end
end
section
open Go.RowKit Go.MapKept Go.ChangeMaps Go.Shelf Go.Sort
section
variable {b:Nat} {w0 w:World} {l:List Ob}
end
section
variable {live S:List ID} {kp sp:Nat} {c c':CR} {x x':SR}
end
section
variable {live S:List ID} {kp sp:Nat} {c:CR} {x:SR} {b:Nat} {w0 w:World} {l:List Ob}
end
end
end Go.Proofs.YteabgcollokgjaaGreatDoor
