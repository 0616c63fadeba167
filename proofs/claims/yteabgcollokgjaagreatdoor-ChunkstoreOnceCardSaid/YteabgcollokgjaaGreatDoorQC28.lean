/- Q -/
import Derived.Test.YteabgcollokgjaaGreatDoorQC27
set_option linter.unusedSimpArgs false
set_option linter.unusedVariables false
set_option maxRecDepth 100000
set_option maxHeartbeats 32000000
open Go.Lib (hid)
open List renaming getD_eq_getElem?_getD → zA,length_append → zB,length_take → zC,map_cons → zD,length_map → zE,map_append → zF,take_of_length_le → zG,getElem?_eq_getElem → zH,take_succ_eq_append_getElem → zI,getElem_mem → zJ,getElem?_take_of_lt → zK,getElem?_append_right → zL,setIfInBounds_toArray → zM
namespace Go.Proofs.YteabgcollokgjaaGreatDoor
section
open Go.RowKit Go.MapKept Go.ChangeMaps Go.Shelf Go.Sort
attribute [local go_sem] wext_cell

end
section
open Go.RowKit Go.MapKept Go.ChangeMaps Go.Shelf Go.Sort
attribute [local go_sem] wext_cell
end
section
open Go.RowKit Go.MapKept Go.ChangeMaps Go.Shelf Go.Sort
section
variable {dp t:Nat} {x x':SR}
theorem LayS.put (h:LayS x) {bs:List UInt8} {d:BD} (ha:asc x.C (fpOf bs)=none):LayS (putS x (fpOf bs) d bs):=by
 intro f hf;obtain ⟨D,h1,cs,h2,h3,h4,h5⟩:=h f hf;refine ⟨D,h1,cs,h2,h3,h4,fun i o=>?_⟩;rw [<- h5]
 have hn:fpOf bs ∉ x.C.map (·.1):=fun hm=>by
  have:=asc_key.2 hm;rw [ha] at this;cases this
 show (i,Pl.at o)∈setL x.C (fpOf bs) (.pend d bs)↔_;rw [setL_new hn];simp
end
end
section
open Go.RowKit Go.MapKept Go.ChangeMaps Go.Shelf Go.Sort
attribute [local go_sem] wext_cell
end
section
open Go.RowKit Go.MapKept Go.ChangeMaps Go.Shelf Go.Sort
section
variable {ns:List ByteArray} {b:Nat} {w0 w:World} {x:SR} {l:List Ob} {Q P:List (List UInt8)}
abbrev PutQP (Q:List (List UInt8)) (ns:List ByteArray) (b:Nat) (w0:World) (x:SR) (P:List (List UInt8)) (bs:List UInt8) (l:List Ob) (e:Ending) (w':World):Prop:=
 e= .returned (.tuple #[.agg #[.int .u64 (fpOf bs).1,.int .i64 (fpOf bs).2],.int .i64 0])/\∃ x':SR,SW b w0 (x'.obs l) w'/\Cl ns x'/\TQ Q x' (P++[bs])/\x'.ps=x.ps/\x'.p=x.p/\x'.nm=x.nm/\x'.F=x.F/\x'.s=x.s/\(LayS x->LayS x')
theorem Put_Q (h:SW b w0 (x.obs l) w) (hc:Cl ns x) (hQ:TS Q) (hT:TQ Q x P) (A:Option Addr) (c:Nat) (bs:List UInt8) (hs:RS w A bs) (ht:bs∈Q):
 Calls Tryz.prog 23 #[vPtr x.ps,.slice A bs.length c] w (PutQP Q ns b w0 x P bs l):=by
 have h1:=hQ.lo bs ht;have h2:=hQ.hi bs ht;cases ha:asc x.C (fpOf bs) with
 | none=>
  have hf:=hT.few hQ hc.keys;refine (PutN_L h hc A c bs hs (by omega) (by omega) ha (by omega)).mono ?_;rintro e w' ⟨rfl,d,s,hc'⟩;exact ⟨rfl,_,s,hc',hT.put ht ha d,rfl,rfl,rfl,rfl,rfl,fun hL=>hL.put ha⟩
 | some pl=>
  have hm:fpOf bs∈P.map fpOf:=by
   have:=hT.has (fpOf bs);rw [ha] at this;exact of_decide_eq_true this.symm
  obtain ⟨t,ht',e⟩:=List.mem_map.1 hm;have e2:=hQ.inj t (hT.text t ht') bs ht e;subst e2;refine (PutS_L h hc A c t hs (by omega) (by omega) (hT.val t ht')).mono ?_;rintro e w' ⟨rfl,s⟩;exact ⟨rfl,x,s,hc,hT.more ht',rfl,rfl,rfl,rfl,rfl,fun hL=>hL⟩
end
end
section
open Go.RowKit Go.MapKept Go.ChangeMaps
attribute [local go_sem] wext_cell

end
section
open Go.RowKit Go.MapKept Go.ChangeMaps Go.Shelf Go.Sort

def idS (T:List BS):List ID:=T.map fun e=>fpOf e.bs
theorem idS_snoc (T:List BS) (e:BS):idS (T++[e])=idS T++[fpOf e.bs]:=by simp [idS]
theorem blOb_rb {w:World} {A:Option Addr} {T:List BS} (h:(blOb A T).holds w) {j:Nat} (hj:j<T.length) {e:BS} (he:T.getD j bs0=e):RB w e.d e.bs:=by
 obtain ⟨_,_,_,_,h5⟩:=blOb_at h hj he;exact h5
end
section
open Go.RowKit Go.MapKept Go.ChangeMaps Go.Shelf Go.Sort
attribute [local go_sem] wext_cell
end
section
open Go.RowKit Go.MapKept Go.ChangeMaps Go.Shelf Go.Sort
end
section
open Go.RowKit Go.MapKept Go.ChangeMaps Go.Shelf Go.Sort
attribute [local go_sem] wext_cell
section
variable {b:Nat} {w0 w:World} {l:List Ob}
theorem SW.newBs (h:SW b w0 l w):SW b w0 (bsOb []::l) w:=SW.fuse (pre:=[]) h (fun e he=>by cases he) (fun _ h=>h) (fun i hi=>by obtain ⟨e,he,_⟩:=hi;cases he)
theorem SW.addBs {d:BD} {bs:List UInt8} {E:List BS} (h:SW b w0 (bufOb d bs::bsOb E::l) w):SW b w0 (bsOb (E++[⟨d,bs⟩])::l) w:=by
 have h1:RB w d bs:=h.get 0 (o:=bufOb d bs) rfl;have h2:∀ e∈E,RB w e.d e.bs:=h.get 1 (o:=bsOb E) rfl;refine SW.fuse (pre:=[bufOb d bs,bsOb E]) h (fun e he=>?_) (fun _ h=>h) (fun i hi=>?_)
 · rcases List.mem_append.1 he with he | he
   · exact h2 e he
   rw [List.mem_singleton.1 he];exact h1
 obtain ⟨e,he,hb⟩:=hi;rcases List.mem_append.1 he with he | he
 · exact ⟨bsOb E,by simp,.inr ⟨e,he,hb⟩⟩
 rw [List.mem_singleton.1 he] at hb;exact ⟨bufOb d bs,by simp,.inl hb⟩
theorem flat_vQ (E:List BS):E.flatMap encB=E.map vQ:=by
 induction E with
 | nil=>rfl
 | cons e E ih=>rw [List.flatMap_cons,ih,zD];rfl
theorem SW.toBl {g m:Nat} {E:List BS} (h:SW b w0 (cellOb g 34 (arrE E m)::bsOb E::l) w) (hm:E.length=m):SW b w0 (blOb (some ⟨g,0,none⟩) E::l) w:=by
 have h1:IsB w g 34 (arrE E m):=h.cell 0 rfl;have h2:∀ e∈E,RB w e.d e.bs:=h.get 1 (o:=bsOb E) rfl;refine SW.fuse (pre:=[cellOb g 34 (arrE E m),bsOb E]) h ⟨⟨by rw [flat_vQ];simp,.inr ⟨g,_,rfl,h1,?_⟩⟩,h2⟩ (fun _ h=>h) (fun i hi=>?_)
 · subst hm;simp only [arrE,Nat.sub_self,List.replicate_zero,List.append_nil,Nat.mul_one,flat_vQ];exact zG (by simp)
 rcases hi with ⟨_,e⟩ | ⟨e,he,hb⟩
 · injection e with e;injection e with e;exact ⟨cellOb g 34 (arrE E m),by simp,.inl e.symm⟩
 exact ⟨bsOb E,by simp,.inr ⟨e,he,hb⟩⟩
theorem split_any (h:SW b w0 l w) (c:CutP) (hc:c.Ok) {A:Option Addr} {bs:List UInt8} (hA:rsOb A bs∈l) (cap:Nat) (hcap:bs.length<=cap) (hn:bs.length<=90000):
 Calls Tryz.prog 106 #[c.val,.slice A bs.length cap] w (fun e w'=>∃ (B:Option Addr) (E:List BS),e= .returned (.tuple #[.slice B E.length E.length,.int .i64 0])/\E.map (·.bs)=cutsF c bs/\SW b w0 (blOb B E::l) w'):=by
 have HMEM:=hid hA;have S0:=hid (h.newCell 85 #[.int .i64 c.mn,.int .i64 c.mx,.int .i64 1,.int .u64 c.ma]);have HEN:=hid (fun (W:World) (hW:SW b w0 l W)=>ends_any hW c hc hA cap (by omega));have HCH:=hid (cutEnds_chain c bs)
 have hel:(cutEnds c bs).length<=bs.length+1:=by
  have:=endsF_pos c bs;unfold cutEnds;split<;>simp<;>omega
 obtain ⟨n,Hn⟩:∃ n,Hid (bs.length=n):=⟨_,rfl⟩;obtain ⟨es,HES⟩:∃ es,Hid (cutEnds c bs=es):=⟨_,rfl⟩;have HCU:Hid (cutsF c bs=(List.range es.length).map (pieceE bs es)):=by rw [Hid, <- HES.out];rfl
 obtain ⟨m,Hm⟩:∃ m,Hid (es.length=m):=⟨_,rfl⟩;rw [HES.out] at hel HEN HCH;rw [Hn.out] at hn hel hcap HEN HCH |-; rw [Hm.out] at hel HEN;clear h hc hA;go_enter Tryz.func106,Tryz.ntmps106;go_upto_region 1 with fail
 generalize w.alloc _=W1 at S0 |-; generalize w.heap.size=g1 at S0 |-; have k0:=(S0.out.cell 0 rfl).cell 0;have k1:=(S0.out.cell 0 rfl).cell 1;have k2:=(S0.out.cell 0 rfl).cell 2;have k3:=(S0.out.cell 0 rfl).cell 3;have S1:=hid S0.out.tail;clear S0;go_wp2_with (go_at_call 161;(with_reducible refine (HEN.out _ S1.out).mono ?_);refine halt_ ?_)
 rintro e w2 ⟨v,rfl,s2⟩;obtain ⟨EA,ec,hv⟩:=own_slI (s2.get 0 rfl);subst hv;have S2:=hid s2;clear s2 HEN S1 k0 k1 k2 k3;have hmk:=fun W=>mk_pcs W m (by omega);go_upto_region 5 with fail
 have S3:=hid ((S2.out.newBs.newCellAt 34 (arrE [] m) (H:=w2.heap.size) rfl));generalize w2.alloc _=W3 at S3 |-; generalize w2.heap.size=gc at S3 |-; clear hmk S2;go_wp2_with fail
 go_loopw [9,26] (fun s9 s26 wr=>∃ (k:Nat) (E:List BS),k<=m/\s26=vZn k/\s9=vZn ((0::es).getD k 0)/\E.length=k/\E.map (·.bs)=(List.range k).map (pieceE bs es)/\SW b w0 (cellOb gc 34 (arrE E m)::bsOb E::rowOb 3 1 (.slice EA m ec) m (es.map vZn)::l) wr) (fun _ s26 _=>m-(intOf s26).toNat)
 case atStart=>exact ⟨0,[],Nat.zero_le _,rfl,rfl,rfl,rfl,S3.out⟩
 obtain ⟨k,E,hk,rfl,rfl,hE,hP,hs⟩:=hrel;have S4:=hid hs;have HP:=hid hP;clear hs S3 hP;by_cases hlt:k<m
 · have hltE:k<es.length:=by rw [Hm.out];exact hlt
   obtain ⟨h1,h2⟩:=HCH.out.at hltE;obtain ⟨lo,HLO⟩:∃ lo,Hid ((0::es).getD k 0=lo):=⟨_,rfl⟩;obtain ⟨hi,HHI⟩:∃ hi,Hid (es.getD k 0=hi):=⟨_,rfl⟩;have HLO2:Hid ((0::es).getD (k+1) 0=hi):=by rw [Hid, <- HHI.out];rfl
   have HPC:Hid (pieceE bs es k=(bs.drop lo).take (hi-lo)):=by rw [Hid, <- HLO.out, <- HHI.out];rfl
   rw [HLO.out,HHI.out] at h1;rw [HHI.out] at h2;rw [HLO.out];obtain ⟨gE,cE,hvE,hgE,hcE⟩:=own_at (S4.out.get 2 (o:=rowOb 3 1 (.slice EA m ec) m (es.map vZn)) rfl) (k:=k) (by rw [zE];exact hltE);injection hvE with e1 e2 e3;subst e1
   have hcE2:wr.cell? ⟨gE,k,none⟩=some (vZn hi):=by
    rw [hcE,List.getElem?_map, <- HHI.out,zA,zH hltE];rfl
   have hrs:RS wr A bs:=S4.out.1.holds (rsOb A bs) (by simp [HMEM.out])
   obtain ⟨g,o,rfl⟩:∃ g o,A=some ⟨g,o,none⟩:=by
    cases hA:A with
    | none=>have:=hrs.1 hA;have:=Hn.out;omega
    | some ad=>
     obtain ⟨g,o,e,_⟩:=hrs.2 ad hA;exact ⟨g,o,by rw [e]⟩
   have hrp:=hrs.part (lo:=lo) (hi:=hi) (by omega) (by rw [Hn.out];omega);have hln:((bs.drop lo).take (hi-lo)).length=hi-lo:=by rw [zC,List.length_drop,Hn.out];omega
   have HCL:Hid (Calls Tryz.prog 87 #[.slice (some ⟨g,o+lo,none⟩) (hi-lo) (cap-lo)] wr (fun e w'=>∃ A3 n3 c3,e= .returned (.slice A3 n3 c3)/\RB w' ⟨A3,n3,c3⟩ ((bs.drop lo).take (hi-lo))/\(∀ g,blk ⟨A3,n3,c3⟩=some g->wr.heap.size<=g)/\Below wr.heap.size wr w')):=by
    have:=CloneB_any (some ⟨g,o+lo,none⟩) (cap-lo) ((bs.drop lo).take (hi-lo)) wr hrp.sb (by omega);rw [hln] at this;refine this.mono ?_;rintro e w' ⟨⟨A3,n3,c3⟩,rfl,h1,h2,h3⟩;exact ⟨A3,n3,c3,rfl,h1,h2,h3⟩
   have hsl:=fun W=>slice34_at W g o n cap lo hi h1 h2 hcap;have hki:(k:Int)<(m:Int):=by omega
   clear hcE hrs hrp hln e2 e3;go_wp2_with (go_at_call 87;(with_reducible refine HCL.out.mono ?_);refine halt_ ?_)
   rintro e w4 ⟨A3,n3,c3,rfl,hrb,hnew,hb4⟩;have S5:=hid ((S4.out.newBytes hb4 hrb hnew));have f0:=(S5.out.cell 1 rfl).frozen k
   have z0:∃ u,w4.cell? ⟨gc,k,none⟩=some u:=by
    refine ⟨.slice none 0 0,?_⟩;rw [(S5.out.cell 1 rfl).cell k];unfold arrE;rw [List.getElem?_toArray,zL (by simp;omega),List.getElem?_replicate,if_pos (by simp;omega)]
   obtain ⟨u0,z0⟩:=z0
   have S6:Hid (SW b w0 (cellOb gc 34 (arrE (E++[⟨⟨A3,n3,c3⟩,(bs.drop lo).take (hi-lo)⟩]) m)::bsOb (E++[⟨⟨A3,n3,c3⟩,(bs.drop lo).take (hi-lo)⟩])::rowOb 3 1 (.slice (some ⟨gE,0,none⟩) m ec) m (es.map vZn)::l) (w4.setCell ⟨gc,k,none⟩ (.slice A3 n3 c3))):=by
    have h5:=S5.out.setAt 1 rfl k (.slice A3 n3 c3);have h6:=SW.front (pre:=[_,_,_]) h5 [0,2,1] (n:=3) rfl (by decide);have h7:=SW.addBs h6;have h8:=SW.front (pre:=[_,_]) h7 [1,0] (n:=2) rfl (by decide)
    have e:(arrE E m).setIfInBounds k (.slice A3 n3 c3)=arrE (E++[⟨⟨A3,n3,c3⟩,(bs.drop lo).take (hi-lo)⟩]) m:=by
     rw [<- hE];exact arrE_set E m ⟨⟨A3,n3,c3⟩,(bs.drop lo).take (hi-lo)⟩ (by omega)
    rw [e] at h8;exact h8
   clear hrb hnew hb4 S5 S4 HCL hcE2;go_wp2_with fail
   go_roundw
   case rel=>
    refine ⟨k+1,_,by omega,by go_num,by rw [HLO2.out],by rw [zB,hE];rfl,?_,S6.out⟩;rw [zF,HP.out,List.range_succ,zF,zD,List.map_nil,zD,List.map_nil,HPC.out]
   simp [intOf];omega
 obtain rfl:k=m:=by omega
 have S5:=hid (S4.out.toBl hE);clear S4;go_wp2_with fail
 go_ret2;refine ⟨some ⟨gc,0,none⟩,E,by rw [hE];rfl,?_,?_⟩
 · rw [HP.out,HCU.out,Hm.out]
 exact SW.few (pre:=[_,_]) S5.out [0] (n:=2) rfl (by decide) (by decide)
end
end
section
open Go.RowKit Go.MapKept Go.ChangeMaps Go.Shelf Go.Sort
attribute [local go_sem] wext_cell
section
variable {b:Nat} {w0 w:World} {l:List Ob}
theorem build_any (h:SW b w0 l w) (c:CutP) (hc:c.Ok) {A:Option Addr} {bs:List UInt8} (hA:rsOb A bs∈l) (cap:Nat) (hcap:bs.length<=cap) (hn:bs.length<=1000):
 Calls Tryz.prog 55 #[c.val,.slice A bs.length cap] w (fun e w'=>∃ (v:Value) (B:Option Addr) (E:List BS),e= .returned (.tuple #[.agg #[.int .i64 (bs.length:Int),v],.slice B E.length E.length,.int .i64 0])/\E.map (·.bs)=cutsF c bs/\SW b w0 (rowOb 31 2 v E.length ((idS E).flatMap encID)::blOb B E::l) w'):=by
 have S0:=hid ((h.newCell 85 #[.int .i64 c.mn,.int .i64 c.mx,.int .i64 1,.int .u64 c.ma]).newCellAt 89 #[.int .i64 0,.slice none 0 0] (H:=w.heap.size+1) (by simp));have HSP:=hid (fun (W:World) (m:List Ob) (hW:SW b w0 m W) (hm:rsOb A bs∈m)=>split_any hW c hc hm cap hcap (by omega));have HMEM:=hid hA
 have hcl:(cutsF c bs).length<=bs.length+1:=by
  unfold cutsF;rw [zE,List.length_range];have:=endsF_pos c bs;unfold cutEnds;split<;>simp<;>omega
 have hpl:∀ p∈cutsF c bs,p.length<=1000:=fun p hp=>by
  obtain ⟨k,_,rfl⟩:=List.mem_map.1 hp;unfold pieceE;rw [zC,List.length_drop];omega
 have HPL:=hid hpl;obtain ⟨P,HP⟩:∃ P,Hid (cutsF c bs=P):=⟨_,rfl⟩;rw [HP.out] at hcl HPL HSP |-; obtain ⟨n,Hn⟩:∃ n,Hid (bs.length=n):=⟨_,rfl⟩;rw [Hn.out] at hn hcap hcl HSP |-; clear h hc hA hpl;go_enter Tryz.func55,Tryz.ntmps55;go_upto_region 1 with fail
 generalize (w.alloc _).alloc _=W1 at S0 |-; obtain ⟨g4,H4⟩:∃ g4,Hid (w.heap.size+1=g4):=⟨_,rfl⟩;rw [H4.out] at S0 |-; generalize w.heap.size=g1 at S0 |-; have k0:=(S0.out.cell 1 rfl).cell 0;have k1:=(S0.out.cell 1 rfl).cell 1;have k2:=(S0.out.cell 1 rfl).cell 2;have k3:=(S0.out.cell 1 rfl).cell 3;have S1:Hid (SW b w0 (cellOb g4 89 #[.int .i64 0,.slice none 0 0]::l) W1):=SW.few (pre:=[_,_]) S0.out [0] (n:=2) rfl (by decide) (by decide);clear S0 H4;go_wp2_with (go_at_call 106;(with_reducible refine (HSP.out _ _ S1.out (by simp [HMEM.out])).mono ?_);refine halt_ ?_)
 rintro e w2 ⟨B,E,rfl,hE,s2⟩;have S2:=hid s2;have HEP:=hid hE
 have hel:E.length<=n+1:=by
  have:=congrArg List.length hE;rw [zE] at this;omega
 have HEL:Hid (∀ e∈E,e.bs.length<=1000):=fun e he=>HPL.out e.bs (by rw [<- hE];exact List.mem_map.2 ⟨e,he,rfl⟩);obtain ⟨m,Hm⟩:∃ m,Hid (E.length=m):=⟨_,rfl⟩;rw [Hm.out] at hel |-; have hm1:¬ ((1024:Int)<(m:Int)):=by omega
 clear s2 hE HSP S1 k0 k1 k2 k3;go_upto_region 7 with fail
 have S3:Hid (SW b w0 (cellOb w2.heap.size 89 #[.int .i64 (n:Int),.slice none 0 0]::rowOb 31 2 (.slice none 0 0) 0 []::blOb B E::cellOb g4 89 #[.int .i64 0,.slice none 0 0]::l) (w2.alloc (.cells #[.int .i64 (n:Int),.slice none 0 0] 89))):=(S2.out.newRow 31 2).newCell 89 _;generalize w2.alloc _=W3 at S3 |-; generalize w2.heap.size=g9 at S3 |-; clear S2;obtain ⟨i1,gi,gz0,gz1,gz2⟩:=info_parts info31;go_wp2_with fail
 go_loopw [31] (fun s31 wr=>∃ (k:Nat) (v:Value),k<=m/\s31= .int .i64 (k:Int)/\SW b w0 (cellOb g9 89 #[.int .i64 (n:Int),v]::rowOb 31 2 v k ((idS (E.take k)).flatMap encID)::blOb B E::cellOb g4 89 #[.int .i64 0,.slice none 0 0]::l) wr) (fun s31 _=>m-(intOf s31).toNat)
 case atStart=>exact ⟨0,_,Nat.zero_le _,rfl,S3.out⟩
 obtain ⟨k,v,hk,rfl,hs⟩:=hrel;have S4:=hid hs;clear hs S3;obtain ⟨va,vc,rfl⟩:=own_slI (S4.out.get 1 rfl);by_cases hlt:k<m
 · have hltE:k<E.length:=by rw [Hm.out];exact hlt
   obtain ⟨e,hek⟩:∃ e,E.getD k bs0=e:=⟨_,rfl⟩;have HE:=hid hek;have hbl:e.bs.length<=1000:=HEL.out e (by rw [<- hek,zA,zH hltE];exact zJ hltE)
   have HTS:Hid (idS (E.take (k+1))=idS (E.take k)++[fpOf e.bs]):=by
    have:E.take (k+1)=E.take k++[e]:=by
     rw [zI hltE, <- hek,zA,zH hltE];rfl
    rw [Hid,this,idS_snoc]
   obtain ⟨gB,hB,_,a0,hrb⟩:=blOb_at (S4.out.1.holds (blOb B E) (by simp)) hltE hek;have HB:=hid hB;rw [hB];have hdl:e.d.len=e.bs.length:=hrb.1.symm;rw [hdl] at a0;have hki:(k:Int)<(m:Int):=by omega
   clear hek hrb hB;go_upto_region 10 with fail
   obtain ⟨i,HI⟩:∃ i,Hid (fpOf e.bs=i):=⟨_,rfl⟩;rw [HI.out] at HTS;have S5:=hid S4.out.drew;clear S4;refine wp_region_held_tail [(0,true),(1,true),(2,true),(3,false),(4,false),(5,false),(6,true)] (fun w'=>w'.cell? ⟨g9,1,none⟩=some (.slice va k vc)) (by kernel_rfl) (fun _ _ d _ _ h=>by cases d<;>exact h) (by kernel_rfl) ((S5.out.cell 0 rfl).cell 1) ?_;simp only [pk_]
   iterate 3
    (refine wpHeld_take (v:=?_) (Or.inl ⟨by rfl,?_⟩) ?_
     rotate_left
     · (intro w' hSw;have h1:=hSw;go_simp;try with_reducible rfl)
     try simp only [Act.put,zM,List.set])
   refine wpHeld_run (fun K hK=>?_);go_simp;go_at_call 31
   refine (Of_any e.d.A e.d.cap e.bs wr.drew (blOb_rb (S5.out.1.holds (blOb B E) (by simp)) hltE HE.out).rs (by omega)).mono ?_;rw [HI.out];rintro e2 w4 ⟨rfl,hb4⟩;have S6:=hid (S5.out.on hb4);clear hb4 S5;go_wp2_with fail
   refine hK.out _ _ ((S6.out.cell 0 rfl).cell 1) ?_;clear hK K;try simp only [Act.put,zM,List.set]
   refine wpHeld_run (fun K hK=>?_);go_simp;refine hK.out _ _ (((S6.out.alloc _).cell 0 rfl).cell 1) ?_;clear hK K;try simp only [Act.put,zM,List.set]
   refine wpHeld_run (fun K hK=>?_);refine step_rowS (t:=38) (e:=31) (size:=2) (bytes:=16) (i:=i1) (S6.out.alloc _) 1 rfl (by rfl) (.tmp 36) (.tmp 39) (by rfl) Tryz.underlying38 gi gz0 gz1 gz2 rfl (by omega) (by rfl) ⟨w4.heap.size,0,none⟩ 1 [.int .u64 i.1,.int .i64 i.2] (by rfl) rfl (two_new w4 _ _ 31 _ rfl) (encID_one i) (by unfold maxLen;omega) (by omega) ?_;intro v8 w8 s8;obtain ⟨g8,c8,rfl⟩:=own_some (s8.get 1 rfl) (by omega)
   have S8:Hid (SW b w0 (cellOb g9 89 #[.int .i64 (n:Int),.slice va k vc]::rowOb 31 2 (.slice (some ⟨g8,0,none⟩) (k+1) c8) (k+1) ((idS (E.take (k+1))).flatMap encID)::blOb B E::cellOb g4 89 #[.int .i64 0,.slice none 0 0]::l) w8):=by
    rw [Hid,HTS.out,List.flatMap_append];exact s8
   refine hK.out _ _ ((S8.out.cell 0 rfl).cell 1) ?_;clear hK K s8 S6;try simp only [Act.put,zM,List.set]
   (refine wpHeld_take (v:=?_) (Or.inl ⟨by rfl,?_⟩) ?_
    rotate_left
    · (intro w' hSw;have h1:=hSw;go_simp;try with_reducible rfl)
    try simp only [Act.put,zM,List.set])
   refine wpHeld_nil ?_;simp only [dz_];have k1:=(S8.out.cell 0 rfl).cell 1;have f1:=(S8.out.cell 0 rfl).frozen 1;have S9:Hid (SW b w0 (cellOb g9 89 #[.int .i64 (n:Int),.slice (some ⟨g8,0,none⟩) (k+1) c8]::rowOb 31 2 (.slice (some ⟨g8,0,none⟩) (k+1) c8) (k+1) ((idS (E.take (k+1))).flatMap encID)::blOb B E::cellOb g4 89 #[.int .i64 0,.slice none 0 0]::l) _):=hid (S8.out.setAt 0 rfl 1 (.slice (some ⟨g8,0,none⟩) (k+1) c8));go_wp2_with fail
   go_roundw
   case rel=>exact ⟨k+1,_,by omega,by go_num,by rw [<- HB.out];exact S9.out⟩
   simp [intOf];omega
 obtain rfl:k=m:=by omega
 have hft:E.take k=E:=by rw [zG (by rw [Hm.out];omega)]
 rw [hft] at S4;have m0:=(S4.out.cell 0 rfl).cell 0;have m1:=(S4.out.cell 0 rfl).cell 1;have n0:=(S4.out.cell 3 rfl).cell 0;have n1:=(S4.out.cell 3 rfl).cell 1;have f0:=(S4.out.cell 3 rfl).frozen 0;have f1:=(S4.out.cell 3 rfl).frozen 1;have hne:=S4.out.ne (i:=0) (j:=3) rfl rfl (by decide);have S5:=hid ((S4.out.setAt 3 rfl 0 (.int .i64 (n:Int))).setAt 3 rfl 1 (.slice va k vc));go_wp2_with fail
 generalize (wr.setCell ⟨g4,0,none⟩ (.int .i64 (n:Int))).setCell ⟨g4,1,none⟩ (.slice va k vc)=WF at S5 |-; have q0:=(S5.out.cell 3 rfl).cell 0;have q1:=(S5.out.cell 3 rfl).cell 1;refine bodyPost_ret (v:=.tuple #[.agg #[.int .i64 (n:Int),.slice va k vc],.slice B k k,.int .i64 0]) ?_ rfl ?_
 · simp [results,Tryz.results55,go_sem,q0,q1]
 refine ⟨.slice va k vc,B,E,by rw [Hm.out],HEP.out,?_⟩;rw [Hm.out];exact SW.few (pre:=[_,_,_,_]) S5.out [1,2] (n:=4) rfl (by decide) (by decide)
end
end
section
open Go.RowKit Go.MapKept Go.ChangeMaps Go.Shelf Go.Sort
attribute [local go_sem] wext_cell
end
section
open Go.RowKit Go.MapKept Go.ChangeMaps Go.Shelf Go.Sort
theorem tnext_lt (L:List Int) (n:Nat) {k:Int} (hk:1<=k):tnext L n k<k:=by
 by_cases h:1<k
 · exact (tnext_in L n k).2 h
 have e:k=1:=by omega
 subst e;unfold tnext foldI;simp
theorem tbytes_lt (L:List Int) (n:Nat) {k:Int} (hk:1<=k) (hk2:k<=256):∀ c,∀ x∈tbytes L n k c,((x.toNat:Nat):Int)<k
 | 0,x,h=>by cases h
 | c+1,x,h=>by
  rw [tbytes] at h;rcases List.mem_append.1 h with h | h
  · exact tbytes_lt L n hk hk2 c x h
  rw [List.mem_singleton.1 h,UInt8.toNat_ofNat'];have h0:=(tnext_in L (n+c) k).1;have h1:=tnext_lt L (n+c) hk;omega
section
variable {b:Nat} {w0 w w':World} {l:List Ob} {g:Nat} {A:Option Addr} {c:Nat} {L:List Int} {n:Nat}
theorem Bytes_y (h:SW b w0 l w) (kk:Nat) (hk:l[kk]? =some (tpOb g A c L n)) (m:Nat) (k:Int) (hm:m<=10000) (hk1:1<=k) (hk2:k<=256) (hn:n+m<=1000000):
 Calls Tryz.prog 54 #[vPtr g,.int .i64 m,.int .i64 k] w (fun e w'=>∃ d,e= .returned (.slice d.A d.len d.cap)/\SW b w0 (bufOb d (tbytes L n k m)::l.set kk (tpOb g A c L (n+m))) w'):=by
 obtain ⟨cs,hcs,hmk⟩:=mk_slice w m (by omega);have hmx:max (m:Int) 0=m:=by omega
 have hkl:kk<l.length:=(List.getElem?_eq_some_iff.1 hk).1;have S0:Hid (SW b w0 (bufOb ⟨some ⟨w.heap.size,0,none⟩,0,m⟩ []::l) (w.alloc (.cells cs 5))):=h.newBuT ((Below.refl _ _).alloc (Nat.le_refl _) _) (new_bytes w cs _ _ _ _ rfl rfl (Nat.zero_le _) hcs (by simp)) (fun g hg=>by simp [blk] at hg;omega);have HK:=hid hk;clear h hk;go_enter Tryz.func54,Tryz.ntmps54;go_wp2_with fail
 go_loopw [7,8] (fun v i wr=>∃ (j:Nat) (d:BD),j<=m/\i= .int .i64 j/\v= .slice d.A d.len d.cap/\SW b w0 (bufOb d (tbytes L n k j)::l.set kk (tpOb g A c L (n+j))) wr) (fun _ i _=>m-(intOf i).toNat)
 case atStart=>
  refine ⟨0,⟨some ⟨w.heap.size,0,none⟩,0,m⟩,by omega,rfl,rfl,?_⟩;have e:l.set kk (tpOb g A c L (n+0))=l:=set_self l kk _ HK.out;rw [e];exact S0.out
 obtain ⟨j,d,hj,rfl,rfl,hs⟩:=hrel;have S1:=hid hs;clear hs hmk S0;have HN:=hid (Next_x S1.out (kk+1) (by rw [List.getElem?_cons_succ,List.getElem?_set_self hkl]) k (by omega) (by omega));simp only [List.set_cons_succ,List.set_set] at HN;by_cases hlt:j<m
 · go_wp2_with (first
    | (go_at_call 33;(with_reducible refine HN.out.mono ?_);refine halt_ ?_)
    | (at_builtin;refine halt_ ?_))
   rintro e w1 ⟨rfl,s2⟩;have S2:=hid s2;clear s2 HN;obtain ⟨hy0,hy1⟩:=tnext_in L (n+j) k;have hy1:=tnext_lt L (n+j) hk1;have HT:Hid (tbytes L n k (j+1)=tbytes L n k j++[UInt8.ofNat (tnext L (n+j) k).toNat]):=rfl;have HL:=hid (tbytes_len L n k j);generalize tbytes L n k j=bs at S1 S2 HL HT;generalize tnext L (n+j) k=y at hy0 hy1 HT |-; have hyw:IntKind.u8.wrap y=y:=IntWalk.u8_in y (by omega);obtain ⟨yb,hyb⟩:∃ yb:UInt8,((yb.toNat:Nat):Int)=y:=⟨UInt8.ofNat y.toNat,by rw [UInt8.toNat_ofNat'];omega⟩;subst hyb;have e1:UInt8.ofNat (((yb.toNat:Nat):Int)).toNat=yb:=by simp
   rw [e1] at HT;clear S1 e1;go_wp2_with (at_builtin;refine halt_ ?_)
   have hrb:RB w1 d bs:=S2.out.get 0 (o:=bufOb d bs) rfl;have SB1:Hid (SB (w1.alloc (.cells #[.int .u8 ((yb.toNat:Nat):Int)] 5)) (some ⟨w1.heap.size,0,none⟩) [yb]):=sb_const w1 _ rfl [yb] (0,0);refine wpList_append_bytes rfl _ _ rfl d bs rfl (hrb.on (bel1 _ _)) (some ⟨w1.heap.size,0,none⟩) 1 [yb] rfl SB1.out (by rw [HL.out];simp only [List.length_cons,List.length_nil];omega) ?_;intro d2 w2 hl2 happ
   have S3:Hid (SW b w0 (bufOb d2 (tbytes L n k (j+1))::l.set kk (tpOb g A c L (n+(j+1)))) w2):=by
    rw [Hid,HT.out];have:=(S2.out.alloc (.cells #[.int .u8 ((yb.toNat:Nat):Int)] 5)).appB 0 rfl happ;exact this
   clear happ hl2 hyw hy0 hy1 hrb SB1 S2;go_wp2_with fail
   go_roundw
   case rel=>exact ⟨j+1,d2,by omega,by go_num,rfl,S3.out⟩
   simp [intOf];omega
 obtain rfl:j=m:=by omega
 go_wp2_with fail
 go_ret;exact ⟨d,rfl,S1.out⟩
end
end
section
open Go.RowKit Go.MapKept Go.ChangeMaps Go.Shelf Go.Sort
attribute [local go_sem] wext_cell
def blR (A:Option Addr) (T:List BS):Ob where
 own:=fun _=>False
 rd:=fun i=>(0<T.length/\A=some ⟨i,0,none⟩)∨∃ e∈T,0<e.bs.length/\∃ o,e.d.A=some ⟨i,o,none⟩
 holds:=fun w=>RowV w 34 1 A T.length (T.flatMap encB)/\∀ e∈T,RS w e.d.A e.bs/\e.bs.length=e.d.len
 stable:=fun w w' h hs hk=>by
  refine ⟨h.1.same (fun i hn e=>hk i (.inr (.inl ⟨hn,e⟩))),fun e he=>⟨?_,(h.2 e he).2⟩⟩;refine ⟨(h.2 e he).1.1,fun ad ea=>?_⟩;obtain ⟨g,o,rfl,hc⟩:=(h.2 e he).1.2 ad ea;refine ⟨g,o,rfl,fun j hj=>?_⟩;have hb:=hk g (.inr (.inr ⟨e,he,by omega,o,ea⟩));rw [<- hc j hj];simp [World.cell?, hb]
theorem blR_lt {w:World} {A:Option Addr} {T:List BS} (h:(blR A T).holds w) {i:Nat} (hi:(blR A T).rd i):i<w.heap.size:=by
 rcases hi with ⟨hn,e⟩ | ⟨e,he,hp,o,ea⟩
 · exact h.1.lt hn e
 exact (h.2 e he).1.lt ea hp
theorem blR_at {w:World} {A:Option Addr} {T:List BS} (h:(blR A T).holds w) {j:Nat} (hj:j<T.length) {e:BS} (he:T.getD j bs0=e):∃ g,A=some ⟨g,0,none⟩/\g<w.heap.size/\w.cell? ⟨g,j,none⟩=some (.slice e.d.A e.d.len e.d.cap)/\RS w e.d.A e.bs/\e.bs.length=e.d.len:=by
 obtain ⟨g,e1,hlt,hc⟩:=h.1.at (by omega);refine ⟨g,e1,hlt,?_,h.2 e ?_⟩
 · have:=flat_at encB_len bs0 T j 0 hj (by omega);rw [he] at this;rw [hc j (by omega)];simpa [encB] using this
 rw [<- he,zA,zH hj];exact zJ hj
theorem conv_rs {w:World} {d:BD} {bs:List UInt8} (h:RS w d.A bs) (hl:bs.length=d.len):(convert 34 9 (.slice d.A d.len d.cap)).run Tryz.prog w= .ok (.string ⟨bs.toArray⟩) w:=by
 have:=conv_str h.sb d.cap;rwa [hl] at this
theorem Distinct_R {w:World} {A:Option Addr} {T:List BS} (h:(blR A T).holds w) (c:Nat) (hl:T.length<=100000) (hb:∀ e∈T,e.bs.length<=1000000):Calls Tryz.prog 57 #[.slice A T.length c] w (DistP T w):=by
 have S0:=hid (SW.start (o:=blR A T) h (fun _ h=>h) (fun _ h'=>blR_lt h h'));have HB:=hid hb;clear h hb;go_enter Tryz.func57,Tryz.ntmps57;go_wp2_with fail
 go_loopw [3,4] (fun s3 s4 wr=>∃ (j:Nat) (D:Option Addr) (cap:Nat),j<=T.length/\s4= .int .i64 (j:Int)/\s3= .slice D ((T.take j).map fun e=>fpOf e.bs).length cap/\DistB (T.take j)/\SW w.heap.size w [rowOb 31 2 (.slice D ((T.take j).map fun e=>fpOf e.bs).length cap) ((T.take j).map fun e=>fpOf e.bs).length (((T.take j).map fun e=>fpOf e.bs).flatMap encID),blR A T] wr) (fun _ s4 _=>T.length-(intOf s4).toNat)
 case atStart=>exact ⟨0,none,0,Nat.zero_le _,rfl,rfl,(fun j k hj=>by simp at hj),S0.out.newRow 31 2⟩
 obtain ⟨j,D,cap,hj,rfl,rfl,hd,hs⟩:=hrel;have HD:=hid hd;have S1:=hid hs;clear hd hs S0;by_cases hlt:j<T.length
 · obtain ⟨e,he⟩:∃ e,T.getD j bs0=e:=⟨_,rfl⟩;obtain ⟨g,hA,hgl,a0,hrb⟩:=blR_at (S1.out.get 1 (o:=blR A T) rfl) hlt he
   have hel:e.bs.length<=1000000:=by
    refine HB.out e ?_;rw [<- he,zA,zH hlt];exact zJ hlt
   have hdl:e.d.len=e.bs.length:=hrb.2.symm;rw [hdl] at a0;have HOF:=hid (rOf_any e.d.A e.d.cap e.bs wr hrb.1 (by omega));obtain ⟨i,HI⟩:∃ i,Hid (fpOf e.bs=i):=⟨_,rfl⟩;rw [HI.out] at HOF
   have hts:T.take (j+1)=T.take j++[e]:=by
    rw [zI hlt, <- he,zA,zH hlt];rfl
   have HTS:Hid ((T.take (j+1)).map (fun e=>fpOf e.bs)=(T.take j).map (fun e=>fpOf e.bs)++[i]):=by rw [Hid,hts,zF, <- HI.out];rfl
   have hFl:((T.take j).map fun e=>fpOf e.bs).length=j:=by rw [zE,zC];omega
   have HF:Hid (∀ k,k<j->((T.take j).map fun e=>fpOf e.bs).getD k id0=fpOf (T.getD k bs0).bs):=fun k hk=>by
    have hk2:k<T.length:=by omega
    rw [zA,List.getElem?_map,zK hk,zA,zH hk2];rfl
   generalize ((T.take j).map fun e=>fpOf e.bs)=F at S1 HTS hFl HF |-; have HE:=hid he;obtain ⟨i1,gi,gz0,gz1,gz2⟩:=info_parts info31;rw [hA];have HFl:=hid hFl;clear hts he hrb hFl hdl;go_wp2_with (first | (go_at_call 94;(with_reducible refine HOF.out.mono ?_);refine halt_ ?_) | (at_builtin;refine halt_ ?_))
   rintro e2 w2 ⟨rfl,hb2⟩;have S2:=hid (S1.out.on hb2);clear hb2 HOF S1;go_wp2_with (at_builtin;(refine wpList_rowS (t:=38) (e:=31) (size:=2) (bytes:=16) (i:=i1) (S2.out.alloc _) 0 rfl (by rfl) (.tmp 12) (.tmp 18) (by rfl) Tryz.underlying38 gi gz0 gz1 gz2 rfl (by omega) (by rfl) ⟨w2.heap.size,0,none⟩ 1 [.int .u64 i.1,.int .i64 i.2] (by rfl) rfl (two_new w2 _ _ 31 _ rfl) (encID_one i) (by unfold maxLen;have:=HFl.out;omega) (by have:=HFl.out;omega) ?_);refine halt_ ?_)
   intro v4 w4 s4;have hFl:=HFl.out;obtain ⟨g4,c4,rfl⟩:=own_some (s4.get 0 rfl) (by omega);obtain ⟨G,HG⟩:∃ G,Hid (F++[i]=G):=⟨_,rfl⟩;have hGl:G.length=j+1:=by rw [<- HG.out,zB,hFl];rfl
   have S4:Hid (SW w.heap.size w [rowOb 31 2 (.slice (some ⟨g4,0,none⟩) G.length c4) G.length (G.flatMap encID),blR (some ⟨g,0,none⟩) T] w4):=by
    rw [Hid, <- HG.out,List.flatMap_append,zB];exact s4
   have HGk:Hid (∀ k,k<j->G.getD k id0=fpOf (T.getD k bs0).bs):=fun k hk=>by
    rw [<- HG.out,zA,List.getElem?_append_left (by omega), <- zA];exact HF.out k hk
   have HGj:Hid (G.getD j id0=i):=by
    rw [Hid, <- HG.out,zA,zL (by omega),hFl,Nat.sub_self];rfl
   rw [HG.out] at HTS;have e4:F.length+1=G.length:=by rw [hGl,hFl]
   rw [e4];have HGl:=hid hGl;clear s4 S2 a0 HF HG e4 hFl hGl;go_wp2_with fail
   rename World=>wq;go_loopw [5] (fun s5 wr=>∃ k:Nat,k<=j/\s5= .int .i64 (k:Int)/\(∀ m,m<k->fpOf e.bs=fpOf (T.getD m bs0).bs->e.bs=(T.getD m bs0).bs)/\SW w.heap.size w [rowOb 31 2 (.slice (some ⟨g4,0,none⟩) G.length c4) G.length (G.flatMap encID),blR (some ⟨g,0,none⟩) T] wr) (fun s5 _=>j-(intOf s5).toNat)
   case atStart=>exact ⟨0,Nat.zero_le _,rfl,(fun m hm=>by omega),S4.out⟩
   obtain ⟨k,hk,rfl,hin,hs⟩:=hrel;have HIN:=hid hin;have S5:=hid hs;clear hin hs S4;by_cases hkj:k<j
   · obtain ⟨f,hf⟩:∃ f,T.getD k bs0=f:=⟨_,rfl⟩;obtain ⟨g',hA',hgl',b0,hrbk⟩:=blR_at (S5.out.get 1 (o:=blR (some ⟨g,0,none⟩) T) rfl) (by omega) hf;obtain ⟨g'',hA'',_,b1,hrbj⟩:=blR_at (S5.out.get 1 (o:=blR (some ⟨g,0,none⟩) T) rfl) hlt HE.out;injection hA' with hA';injection hA' with hA';subst hA';injection hA'' with hA'';injection hA'' with hA'';subst hA'';obtain ⟨_,hrow,hrl,_⟩:=own_rowI (S5.out.get 0 (o:=rowOb 31 2 (.slice (some ⟨g4,0,none⟩) G.length c4) G.length (G.flatMap encID)) rfl);obtain ⟨p0,p1,_,_⟩:=hrow.cells (j:=j) (by have:=HGl.out;omega) HGj.out;obtain ⟨q,hq⟩:∃ q,fpOf f.bs=q:=⟨_,rfl⟩;have hGk:=HGk.out k hkj;rw [hf,hq] at hGk;obtain ⟨q0,q1,_,_⟩:=hrow.cells (j:=k) (by have:=HGl.out;omega) hGk;have heq:=fun W=>eql31 i q W;have hjG:j<G.length:=by have:=HGl.out;omega
     have hkG:k<G.length:=by have:=HGl.out;omega
     have hkT:k<T.length:=by omega
     have v1:=fun q:Ext wr=>conv_rs (hrbj.1.on (wext_below q)) hrbj.2;have v2:=fun q:Ext wr=>conv_rs (hrbk.1.on (wext_below q)) hrbk.2;have HFK:=hid hf;have HQ:=hid hq;clear hrow hf hq hGk hA hrbk hrbj;by_cases e1:i=q
     · rw [decide_eq_true e1] at heq;clear e1;by_cases e2:e.bs=f.bs
       · rw [<- e2] at v2;have E2:=hid e2;clear e2;go_upto_region 9 with fail
         refine wp_region_ext (by kernel_rfl) (by kernel_rfl) ?_;repeat (go_big_quiet_step (fail))
         refine wpQuiet_nil ?_;intro w9 hb9;go_wp2_with fail
         go_roundw
         case rel=>
          refine ⟨k+1,by omega,by go_num,fun m hm he=>?_,S5.out.on hb9⟩;by_cases e3:m=k
          · subst e3;rw [HFK.out];exact E2.out
          exact HIN.out m (by omega) he
         simp [intOf];omega
       have hne:(e.bs==f.bs)=false:=beq_eq_false_iff_ne.2 e2;go_upto_region 9 with fail
       refine wp_region_ext (by kernel_rfl) (by kernel_rfl) ?_;repeat (go_big_quiet_step (fail))
       refine wpQuiet_nil ?_;intro w9 hb9;go_wp2_with fail
       go_ret;exact ⟨false,rfl,(fun h=>by cases h),(S5.out.on hb9).2⟩
     rw [decide_eq_false e1] at heq;have E1:=hid e1;clear e1;go_upto_region 9 with fail
     refine wp_region_ext (by kernel_rfl) (by kernel_rfl) ?_;repeat (go_big_quiet_step (fail))
     refine wpQuiet_nil ?_;intro w9 hb9;go_wp2_with fail
     go_roundw
     case rel=>
      refine ⟨k+1,by omega,by go_num,fun m hm he=>?_,S5.out.on hb9⟩;by_cases e2:m=k
      · subst e2;rw [HFK.out,HQ.out,HI.out] at he;exact absurd he E1.out
      exact HIN.out m (by omega) he
     simp [intOf];omega
   obtain rfl:k=j:=by omega
   go_wp2_with fail
   go_roundw
   case rel=>
    refine ⟨k+1,some ⟨g4,0,none⟩,c4,by omega,by go_num,?_,?_,?_⟩
    · rw [HTS.out]
    · have hlt':=hlt
      have ht:∀ m,m<=k->(T.take (k+1)).getD m bs0=T.getD m bs0:=fun m hm=>by
       rw [zA,zK (by omega), <- zA]
      intro a m ha hm hf;rw [zC] at ha;rw [ht a (by omega),ht m (by omega)] at hf |-; by_cases e1:a=k
      · subst e1;rw [HE.out] at hf |-; exact HIN.out m hm hf
      have ht2:∀ m,m<k->(T.take k).getD m bs0=T.getD m bs0:=fun m hm=>by
       rw [zA,zK hm, <- zA]
      have:=HD.out a m (by rw [zC];omega) hm;rw [ht2 a (by omega),ht2 m (by omega)] at this;exact this hf
    rw [HTS.out];exact S5.out
   simp [intOf];omega
 obtain rfl:j=T.length:=by omega
 rw [List.take_length] at HD;go_wp2_with fail
 go_ret;exact ⟨true,rfl,fun _=>HD.out,S1.out.2⟩
end
section
open Go.RowKit Go.MapKept Go.ChangeMaps Go.Shelf Go.Sort
end
end Go.Proofs.YteabgcollokgjaaGreatDoor
