/- Q -/
import Derived.Test.YteabgcollokgjaaGreatDoorQ33
set_option linter.unusedSimpArgs false
set_option linter.unusedVariables false
set_option maxRecDepth 100000
set_option maxHeartbeats 32000000
open Go.Lib (hid)
open List renaming mem_cons_of_mem → zA,getD_eq_getElem?_getD → zB,mem_cons_self → zC,length_cons → zD,length_map → zE,map_append → zF,take_of_length_le → zG,getElem?_eq_getElem → zH,setIfInBounds_toArray → zI
namespace Go.Proofs.YteabgcollokgjaaGreatDoor
section
open Go.RowKit Go.MapKept Go.ChangeMaps Go.Shelf Go.Sort
theorem idS_at {T:List BS} {k:Nat} (hk:k<T.length) {e:BS} (he:T.getD k bs0=e):(idS T).getD k id0=fpOf e.bs:=by
 rw [<- he];simp [idS,zB,zH hk]
theorem fst_has {K:List CH}:∀ i,i∈K.map (·.1)->(asc (fstL K) i).isSome=true:=by
 have key:∀ k,k<=K.length->∀ i,i∈(K.take k).map (·.1)->(asc (fstL (K.take k)) i).isSome=true:=fun k=>by
  induction k with
  | zero=>intro _ i hi;simp at hi
  | succ k ih=>
   intro hk i hi;rw [take_snoc _ ch0 _ (by omega),fstL_snoc];rw [take_snoc _ ch0 _ (by omega),zF,List.mem_append] at hi;split
   · rename_i h
     rcases hi with hi | hi
     · exact ih (by omega) i hi
     have:i=(K.getD k ch0).1:=by simpa using hi
     rw [this];exact h
   rw [asc_setL];split
   · rfl
   rename_i hne
   rcases hi with hi | hi
   · exact ih (by omega) i hi
   have:i=(K.getD k ch0).1:=by simpa using hi
   exact absurd this.symm hne
 intro i hi;have:=key K.length (Nat.le_refl _) i;rw [List.take_length] at this;exact this hi
section
variable {b:Nat} {w0 w w':World} {l:List Ob}
theorem SW.fuseCk {A:Option Addr} {c:Nat} {K:List CH} (h:SW b w0 (rowOb 65 3 (.slice A K.length c) K.length (K.flatMap encCH)::bufsOb (K.map (·.2))::l) w):SW b w0 (ckOb A K::l) w:=by
 have hb:∀ e∈K.map (fun x:CH=>x.2),RB w e.d e.bs:=h.get 1 (o:=bufsOb (K.map (fun x:CH=>x.2))) rfl;have hr:w.ownsRow 0 65 3 (.slice A K.length c) K.length (K.flatMap encCH):=h.get 0 rfl
 have hv:RowV w 65 3 A K.length (K.flatMap encCH):=by
  refine ⟨hr.1,?_⟩;rcases hr.2 with ⟨_,h0⟩ | ⟨g,cap,cur,hv,_,hh,_,_,_,htk⟩
  · exact .inl h0
  injection hv with e1;exact .inr ⟨g,cur,e1,hh,htk⟩
 refine SW.fuse (pre:=[rowOb 65 3 (.slice A K.length c) K.length (K.flatMap encCH),bufsOb (K.map (fun x:CH=>x.2))]) h ⟨hv,fun e he=>hb _ (List.mem_map.2 ⟨e,he,rfl⟩)⟩ (fun _ h=>h) (fun i hi=>?_);rcases hi with ⟨hp,e⟩ | ⟨e,he,hbk⟩
 · refine ⟨_,zC .., .inl ?_⟩;show (Value.slice A K.length c).ownBlock=some i;rw [e];rfl
 exact ⟨bufsOb (K.map (fun x:CH=>x.2)),by simp,.inr ⟨e.2,List.mem_map.2 ⟨e,he,rfl⟩,hbk⟩⟩
end
theorem distB_inj {T:List BS} (h:DistB T):∀ a∈T.map (·.bs),∀ b∈T.map (·.bs),fpOf a=fpOf b->a=b:=by
 have key:∀ j k,j<T.length->k<T.length->fpOf (T.getD j bs0).bs=fpOf (T.getD k bs0).bs->(T.getD j bs0).bs=(T.getD k bs0).bs:=fun j k hj hk e=>by
  rcases Nat.lt_trichotomy j k with h1 | rfl | h1
  · exact (h k j hk h1 e.symm).symm
  · rfl
  exact h j k hj h1 e
 intro a ha b hb e;obtain ⟨x,hx,rfl⟩:=List.mem_map.1 ha;obtain ⟨y,hy,rfl⟩:=List.mem_map.1 hb;obtain ⟨j,hj,rfl⟩:=List.mem_iff_getElem.1 hx;obtain ⟨k,hk,rfl⟩:=List.mem_iff_getElem.1 hy;have:=key j k hj hk;rw [zB,zH hj,zB,zH hk] at this;exact this e
theorem asm_joinQ {Q:List (List UInt8)} (hQ:TS Q) {T:List BS} {K:List CH} (hT:∀ e∈T,e.bs∈Q) (hK:∀ c∈K,fpOf c.2.bs=c.1/\c.2.bs∈Q) (hi:∀ i∈idS T,(asc (fstL K) i).isSome=true):asmL K (idS T)=joinT T:=by
 induction T with
 | nil=>rfl
 | cons e T ih=>
  have h1:asmL K (idS (e::T))=byL K (fpOf e.bs)++asmL K (idS T):=by simp [asmL,idS]
  have h2:joinT (e::T)=e.bs++joinT T:=by simp [joinT]
  rw [h1,h2,ih (fun e he=>hT e (by simp [he])) (fun i h=>hi i (by
   simp only [idS,List.map_cons,List.mem_cons] at h |-; exact .inr h))]
  congr 1
  have h3:=hi (fpOf e.bs) (by simp [idS]);cases hx:asc (fstL K) (fpOf e.bs) with
  | none=>rw [hx] at h3;cases h3
  | some f=>
   obtain ⟨k1,k2⟩:=hK _ (fstL_mem hx);have:f.bs=e.bs:=hQ.inj _ k2 _ (hT e (by simp)) k1;rw [byL,hx, <- this];rfl
theorem join_cuts {c:CutP} {bs:List UInt8} {E:List BS} (h:E.map (·.bs)=cutsF c bs):joinT E=bs/\lenS E=bs.length:=by
 have e1:joinT E=(E.map (·.bs)).flatten:=by simp [joinT,List.flatMap_def]
 have e2:lenS E=lenS' (E.map (·.bs)):=by simp [lenS,lenS',Function.comp_def]
 rw [e1,e2,h,lenS_flat,cuts_all];exact ⟨rfl,rfl⟩
theorem ShutQ.same {Q:List (List UInt8)} {s s':St} {nm:ByteArray} {P:List (List UInt8)} (h:ShutQ Q s nm P) (e:s'.now (fileN nm)=s.now (fileN nm)):ShutQ Q s' nm P:=by
 obtain ⟨cs,h1,h2,h3,h4⟩:=h;exact ⟨cs,h1,h2,h3,by rw [e];exact h4⟩
theorem lost_shutQ {Q P:List (List UInt8)} {x:SR} (h:Cl [fileN nmS] x) (hn:x.nm=nmS) (hL:LayS x) (hQ:TS Q) (hT:TQ Q x P) (hd:∀ c∈x.C,∃ o,c.2=Pl.at o) (ho:x.s.ops=[]) (keep torn:Int):
 DI [fileN nmS,freshN nmS] ⟨lossF x.s keep torn,[],false,0⟩/\ShutQ Q ⟨lossF x.s keep torn,[],false,0⟩ nmS P:=by
 have hS:=shutQ_of h hL hQ hT hd;rw [hn] at hS;rw [loss_none _ _ _ ho];have hK:x.s.now=x.s.K:=by unfold St.now;rw [ho];rfl
 refine ⟨di_of (fun m hm=>?_),hS.same (by rw [hK];rfl)⟩;rw [<- hK] at hm;exact .inl (List.mem_singleton.1 (h.ns3 m hm))
end
section
open Go.RowKit Go.MapKept Go.ChangeMaps Go.Shelf Go.Sort
attribute [local go_sem] wext_cell
theorem SW.cellRow {b:Nat} {w0 w:World} {l:List Ob} {g:Nat} {e:TypeId} {u:Value} (h:SW b w0 (cellOb g e #[u]::l) w):SW b w0 (rowOb e 1 (.slice (some ⟨g,0,none⟩) 1 1) 1 [u]::l) w:=by
 have ha:=List.pairwise_cons.1 h.1.apart;have hc:IsB w g e #[u]:=h.cell 0 rfl
 have hg:∀ i,(rowOb e 1 (.slice (some ⟨g,0,none⟩) 1 1) 1 [u]).own i->i=g:=fun i hi=>by
  have hi:(Value.slice (some ⟨g,0,none⟩) 1 1).ownBlock=some i:=hi;injection hi with hi;exact hi.symm
 refine ⟨⟨h.1.base,fun y hy=>?_,fun y hy i hi=>?_,fun y hy i hi=>?_,List.pairwise_cons.2 ⟨fun y hy=>⟨fun i hi=>?_,fun i hi hr'=>hr'.elim⟩,ha.2⟩⟩,h.2⟩
 · rcases List.mem_cons.1 hy with rfl | hy
   · exact ⟨rfl,.inr ⟨g,1, #[u],rfl,Nat.zero_le _,hc,Nat.le_refl _,by unfold maxLen;omega,rfl,rfl⟩⟩
   exact h.1.holds y (zA _ hy)
 · rcases List.mem_cons.1 hy with rfl | hy
   · rw [hg i hi];exact h.1.own (cellOb g e #[u]) (zC ..) g rfl
   exact h.1.own y (zA _ hy) i hi
 · rcases List.mem_cons.1 hy with rfl | hy
   · exact hi.elim
   exact h.1.rd y (zA _ hy) i hi
 rw [hg i hi];exact (ha.1 y hy).1 g rfl
theorem bl_src {w:World} {B:Option Addr} {E:List BS} (h:(blOb B E).holds w) (hn:0<E.length):∃ ad,B=some ad/\∀ j u,(E.flatMap encB)[j]? =some u->w.cell? (ad.add j)=some u:=by
 obtain ⟨g,e1,_,hc⟩:=h.1.at hn;refine ⟨⟨g,0,none⟩,e1,fun j u hu=>?_⟩;have hl:(E.flatMap encB).length=E.length*1:=flat_len encB_len E;have hj:=(List.getElem?_eq_some_iff.1 hu).1;rw [lit_add,Nat.zero_add,hc j (by omega)];exact hu
theorem encB_all (E:List BS):∀ u∈E.flatMap encB,u.oneCell'=true:=fun u hu=>by
 obtain ⟨e,_,h⟩:=List.mem_flatMap.1 hu;have h:u∈[Value.slice e.d.A e.d.len e.d.cap]:=h;rw [List.mem_singleton.1 h];rfl
section
variable {w:World} {l:List Ob}
theorem law11_any (h:SW w.heap.size w l w) {A:Option Addr} {L:List Int} (hin:inOb A L∈l) (cap:Nat) (h0:0<w.heap.size) (hS:Syn w):Calls Tryz.prog 11 #[.slice A L.length cap] w (fun e w'=>e= .returned (.bool true)/\Below w.heap.size w w'):=by
 have S2:=hid (h.newTape hin cap (H:=w.heap.size) rfl);have HSY:=hid hS;have H0:=hid h0;clear h hin hS h0;go_enter Tryz.func11,Tryz.ntmps11;go_upto_region 2 with fail
 obtain ⟨W2,HW2⟩:∃ W2,Hid (w.alloc (.cells #[.slice A L.length cap,.int .i64 0] 50)=W2):=⟨_,rfl⟩;obtain ⟨tg,HTG⟩:∃ tg,Hid (w.heap.size=tg):=⟨_,rfl⟩;have S2:Hid (SW w.heap.size w (tpOb tg A cap L 0::l) W2):=by rw [Hid, <- HW2.out, <- HTG.out];exact S2.out
 rw [HW2.out,HTG.out];have HNW:=hid (New_S S2.out);go_wp2_with (go_at_call 21;(with_reducible refine HNW.out.mono ?_);refine halt_ ?_)
 rintro e w3 ⟨rp,rfl,s3⟩;obtain ⟨dp,HDP⟩:∃ dp,Hid (W2.heap.size+2=dp):=⟨_,rfl⟩;rw [HDP.out] at s3;rw [HDP.out];have HO:=hid (Open_LS (ns:=[fileN nmS]) s3 nmS nmS_ok rfl rfl (fun _=>rfl) rfl (by simp) (by simp));clear s3 HNW HDP S2 HW2;go_wp2_with (go_at_call 20;(with_reducible refine HO.out.mono ?_);refine halt_ ?_)
 rintro e w4 ⟨x0,rfl,hs,hc,hC,hF,hnm,hp,hw,hby,hoo⟩;have S4:=hid hs;have C0:=hid hc;have X0:Hid (x0.C=[]/\x0.F=none/\x0.nm=nmS/\x0.p=dp/\x0.s.ops=[]):=⟨hC,hF,hnm,hp,hoo⟩;have HKN:=hid (known33_any w4);obtain ⟨ps,HPS⟩:∃ ps,Hid (x0.ps=ps):=⟨_,rfl⟩;rw [HPS.out];clear hs hc hC hF hnm hp hw hby hoo HO;go_wp2_with (go_at_call 22;(with_reducible refine HKN.out.mono ?_);refine halt_ ?_)
 rintro e w5 ⟨rfl,hb5⟩;have S5:Hid (SW w.heap.size w (x0.obs (tpOb tg A cap L 0::l)) w5):=S4.out.on hb5;clear hb5 HKN S4;have HN1:=hid (Next_x S5.out 4 rfl 4 (by omega) (by omega));obtain ⟨ha0,ha1⟩:=tnext_in L 0 4;have ha1:=ha1 (by omega);obtain ⟨t1,HT1⟩:∃ t:Int,Hid (tnext L 0 4=t):=⟨_,rfl⟩;rw [HT1.out] at ha0 ha1 HN1;go_wp2_with (go_at_call 33;(with_reducible refine HN1.out.mono ?_);refine halt_ ?_)
 rintro e w6 ⟨rfl,s6⟩;have S6:Hid (SW w.heap.size w (x0.obs (tpOb tg A cap L 1::l)) w6):=s6;have HN2:=hid (Next_x S6.out 4 rfl 9 (by omega) (by omega));obtain ⟨hb0,hb1⟩:=tnext_in L 1 9;have hb1:=hb1 (by omega);obtain ⟨t2,HT2⟩:∃ t:Int,Hid (tnext L 1 9=t):=⟨_,rfl⟩;rw [HT2.out] at hb0 hb1 HN2;clear s6 HN1 S5 HT1;go_wp2_with (go_at_call 33;(with_reducible refine HN2.out.mono ?_);refine halt_ ?_)
 rintro e w7 ⟨rfl,s7⟩;have S7:Hid (SW w.heap.size w (x0.obs (tpOb tg A cap L 2::l)) w7):=s7;have HN3:=hid (Next_x S7.out 4 rfl 4 (by omega) (by omega));obtain ⟨hc0,hc1⟩:=tnext_in L 2 4;have hc1:=hc1 (by omega);obtain ⟨t3,HT3⟩:∃ t:Nat,Hid (tnext L 2 4=(t:Int)):=⟨(tnext L 2 4).toNat,by rw [Hid];omega⟩;rw [HT3.out] at hc0 hc1 HN3;clear s7 HN2 S6 HT2;go_wp2_with (go_at_call 33;(with_reducible refine HN3.out.mono ?_);refine halt_ ?_)
 rintro e w8 ⟨rfl,s8⟩;have S8:Hid (SW w.heap.size w (x0.obs (tpOb tg A cap L 3::l)) w8):=s8;clear s8 HN3 S7 HT3;have w1:IntKind.i64.wrap (1+t1)=1+t1:=IntWalk.i64_in _ (by omega);have w2:IntKind.i64.wrap (5+t2)=5+t2:=IntWalk.i64_in _ (by omega);go_upto_region 7 with fail
 obtain ⟨ma,HMA⟩:∃ ma:Int,Hid (IntKind.u64.wrap (IntKind.u64.wrap (2^t3)-1)=ma):=⟨_,rfl⟩;rw [HMA.out];have S9:=hid (S8.out.newCellAt 85 #[.int .i64 (1+t1),.int .i64 (5+t2),.int .i64 1,.int .u64 ma] (H:=w8.heap.size) rfl);generalize w8.alloc _=W9 at S9 |-; generalize w8.heap.size=g7 at S9 |-; clear S8 HMA w1 w2;have HN4:=hid (Next_x S9.out 5 rfl 80 (by omega) (by omega));obtain ⟨hd0,hd1⟩:=tnext_in L 3 80;have hd1:=hd1 (by omega);obtain ⟨m,HM⟩:∃ m:Nat,Hid (tnext L 3 80=(m:Int)):=⟨(tnext L 3 80).toNat,by rw [Hid];omega⟩;rw [HM.out] at hd0 hd1 HN4;go_wp2_with (go_at_call 33;(with_reducible refine HN4.out.mono ?_);refine halt_ ?_)
 rintro e w10 ⟨rfl,s10⟩;have S10:Hid (SW w.heap.size w (cellOb g7 85 #[.int .i64 (1+t1),.int .i64 (5+t2),.int .i64 1,.int .u64 ma]::x0.obs (tpOb tg A cap L 4::l)) w10):=s10;have HN5:=hid (Next_x S10.out 5 rfl 4 (by omega) (by omega));obtain ⟨he0,he1⟩:=tnext_in L 4 4;have he1:=he1 (by omega);obtain ⟨t5,HT5⟩:∃ t:Int,Hid (tnext L 4 4=t):=⟨_,rfl⟩;rw [HT5.out] at he0 he1 HN5;clear s10 HN4 S9 HM;go_wp2_with (go_at_call 33;(with_reducible refine HN5.out.mono ?_);refine halt_ ?_)
 rintro e w11 ⟨rfl,s11⟩;have S11:Hid (SW w.heap.size w (cellOb g7 85 #[.int .i64 (1+t1),.int .i64 (5+t2),.int .i64 1,.int .u64 ma]::x0.obs (tpOb tg A cap L 5::l)) w11):=s11;have w3:IntKind.i64.wrap (1+t5)=1+t5:=IntWalk.i64_in _ (by omega);have HBY:=hid (Bytes_y S11.out 5 rfl m (1+t5) (by omega) (by omega) (by omega) (by omega))
 have H4:Hid (∀ x∈tbytes L 5 (1+t5) m,x.toNat<4):=fun x hx=>by
  have:=tbytes_lt L 5 (k:=1+t5) (by omega) (by omega) m x hx;omega
 have HBL:=hid (tbytes_len L 5 (1+t5) m);obtain ⟨bs,HBS⟩:∃ bs,Hid (tbytes L 5 (1+t5) m=bs):=⟨_,rfl⟩;rw [HBS.out] at HBY H4 HBL;clear s11 HN5 S10 HT5 HBS;go_wp2_with (go_at_call 54;(with_reducible refine HBY.out.mono ?_);refine halt_ ?_)
 rintro e w12 ⟨d,rfl,s12⟩;have hdl:d.len=bs.length:=(s12.get 0 (o:=bufOb d bs) rfl:RB w12 d bs).1.symm
 have hdc:bs.length<=d.cap:=by
  have:=(s12.get 0 (o:=bufOb d bs) rfl:RB w12 d bs).2.1;omega
 have HDL:=hid hdl;rw [hdl];have S12:Hid (SW w.heap.size w (cellOb g7 85 #[.int .i64 (1+t1),.int .i64 (5+t2),.int .i64 1,.int .u64 ma]::x0.obs (rsOb d.A bs::tpOb tg A cap L (5+m)::l)) w12):=SW.front (pre:=[_,_,_,_,_,_]) s12.bufRs [1,2,3,4,5,0] (n:=6) rfl (by decide);obtain ⟨c,HC⟩:∃ c:CutP,Hid (c=⟨1+t1,5+t2,ma⟩):=⟨_,rfl⟩;have HOK:Hid c.Ok:=by rw [HC.out];exact ⟨by show 1<=1+t1;omega,by show 1+t1<=5+t2;omega,by show 5+t2<=8192;omega⟩
 have S12:Hid (SW w.heap.size w (cellOb g7 85 #[.int .i64 c.mn,.int .i64 c.mx,.int .i64 1,.int .u64 c.ma]::x0.obs (rsOb d.A bs::tpOb tg A cap L (5+m)::l)) w12):=by rw [HC.out];exact S12.out
 have hbl:bs.length<=79:=by rw [HBL.out];omega
 have HBU:=hid (build_any S12.out c HOK.out (A:=d.A) (bs:=bs) (by simp [SR.obs]) d.cap hdc (by omega));have k0:=(S12.out.cell 0 rfl).cell 0;have k1:=(S12.out.cell 0 rfl).cell 1;have k2:=(S12.out.cell 0 rfl).cell 2;have k3:=(S12.out.cell 0 rfl).cell 3;clear s12 HBY S11 hdl hdc w3 HC;go_wp2_with (go_at_call 55;(with_reducible refine HBU.out.mono ?_);refine halt_ ?_)
 rintro e w13 ⟨v,B,E,rfl,hE,s13⟩;obtain ⟨va,vc,rfl⟩:=own_slI (s13.get 0 rfl);have HEC:=hid hE
 have HEL:Hid (∀ e∈E,1<=e.bs.length/\e.bs.length<=79):=fun e he=>by
  have:=cuts_pos c bs e.bs (by rw [<- hE];exact List.mem_map.2 ⟨e,he,rfl⟩);omega
 have hen:E.length<=79:=by
  have h1:∀ M:List (List UInt8),(∀ t∈M,1<=t.length)->M.length<=lenS' M:=by
   intro M;induction M with
   | nil=>intro _;simp
   | cons t M ih=>
    intro h;have:=ih (fun s hs=>h s (zA _ hs));have:=h t (by simp);have e:lenS' (t::M)=t.length+lenS' M:=by simp [lenS']
    rw [zD,e];omega
  have h2:=h1 (cutsF c bs) (fun t ht=>(cuts_pos c bs t ht).1);rw [lenS_flat,cuts_all] at h2;have h3:=congrArg List.length hE;rw [zE] at h3;omega
 obtain ⟨ids,HID⟩:∃ ids,Hid (idS E=ids):=⟨_,rfl⟩;have hil:ids.length=E.length:=by rw [<- HID.out];exact zE _
 rw [HID.out, <- hil] at s13;have S13:Hid (SW w.heap.size w (riOb va ids::blOb B E::cellOb g7 85 #[.int .i64 c.mn,.int .i64 c.mx,.int .i64 1,.int .u64 c.ma]::x0.obs (rsOb d.A bs::tpOb tg A cap L (5+m)::l)) w13):=s13.rowRi;clear s13 hE HBU S12 k0 k1 k2 k3;go_upto_region 9 with fail
 obtain ⟨n,Hn⟩:∃ n,Hid (E.length=n):=⟨_,rfl⟩;rw [Hn.out] at hil hen;rw [Hn.out];have S14:=hid (S13.out.newCellAt 89 #[.int .i64 (bs.length:Int),.slice va n vc] (H:=w13.heap.size) rfl);generalize w13.alloc _=W14 at S14 |-; generalize w13.heap.size=g9 at S14 |-; have m1:=(S14.out.cell 0 rfl).cell 1;clear S13;have kc:=fun (w:World) (C:Array Value) (n c:Nat)=>Lib.run_convert_bytes_const (P:=Tryz.prog) w 34 5 C n c Tryz.underlying34 Tryz.underlying5;go_upto_region 11 with fail
 have S15:Hid (SW w.heap.size w (rowOb 34 1 (.slice (some ⟨W14.heap.size+1,0,none⟩) 1 1) 1 [.slice (some ⟨W14.heap.size,0,none⟩) 4 4]::rsOb (some ⟨W14.heap.size,0,none⟩) moreB::cellOb g9 89 #[.int .i64 (bs.length:Int),.slice va n vc]::riOb va ids::blOb B E::cellOb g7 85 #[.int .i64 c.mn,.int .i64 c.mx,.int .i64 1,.int .u64 c.ma]::x0.obs (rsOb d.A bs::tpOb tg A cap L (5+m)::l)) _):=((S14.out.newMore rfl (4,5)).newCellAt 34 #[.slice (some ⟨W14.heap.size,0,none⟩) 4 4] (H:=W14.heap.size+1) (by simp)).cellRow;obtain ⟨i1,gi,gz0,gz1,gz2⟩:=info_parts info34;have hfl:(E.flatMap encB).length=n*1:=by rw [flat_len encB_len,Hn.out]
 have hsr:0<n->∃ ad,B=some ad/\∀ j u,(E.flatMap encB)[j]? =some u->((W14.alloc (.cells #[.int .u8 109,.int .u8 111,.int .u8 114,.int .u8 101] 5 (4,5))).alloc (.cells #[.slice (some ⟨W14.heap.size,0,none⟩) 4 4] 34)).cell? (ad.add j)=some u:=fun hp=>bl_src (S15.out.get 4 (o:=blOb B E) rfl) (by rw [Hn.out];exact hp);go_wp2_with (at_builtin;(refine wpList_rowM (t:=86) (e:=34) (size:=1) (bytes:=24) (i:=i1) S15.out 0 rfl (by rfl) (.tmp 81) (.tmp 82) (by rfl) Tryz.underlying86 gi gz0 gz1 gz2 rfl (by omega) (by rfl) B n n (E.flatMap encB) (by rfl) hfl hsr (encB_all E) (by unfold maxLen;omega) (by omega) ?_);refine halt_ ?_)
 intro v16 w16 s16;obtain ⟨A16,c16,rfl⟩:=own_slI (s16.get 0 rfl);generalize W14.heap.size=gm at s16
 have HRL:Hid ((blR A16 ((⟨⟨some ⟨gm,0,none⟩,4,4⟩,moreB⟩:BS)::E)).holds w16):=by
  have h1:=(RowV.of_own (s16.get 0 (o:=rowOb 34 1 (.slice A16 (1+n) c16) (1+n) ([.slice (some ⟨gm,0,none⟩) 4 4]++E.flatMap encB)) rfl)).1;have h2:RS w16 (some ⟨gm,0,none⟩) moreB:=s16.get 1 (o:=rsOb (some ⟨gm,0,none⟩) moreB) rfl;have h3:(blOb B E).holds w16:=s16.get 4 (o:=blOb B E) rfl;refine ⟨?_,fun e he=>?_⟩
  · have e1:((⟨⟨some ⟨gm,0,none⟩,4,4⟩,moreB⟩:BS)::E).length=1+n:=by rw [zD,Hn.out];omega
    rw [e1];exact h1
  rcases List.mem_cons.1 he with rfl | he
  · exact ⟨h2,rfl⟩
  exact ⟨(h3.2 e he).rs,(h3.2 e he).1⟩
 have HDI:=hid (Distinct_R HRL.out c16 (by rw [zD];have:=Hn.out;omega) (fun e he=>by
  rcases List.mem_cons.1 he with rfl | he
  · show moreB.length<=_;decide
  have:=(HEL.out e he).2;omega))
 have e16:((⟨⟨some ⟨gm,0,none⟩,4,4⟩,moreB⟩:BS)::E).length=1+n:=by rw [zD,Hn.out];omega
 rw [e16] at HDI;have S16:Hid (SW w.heap.size w (x0.obs (cellOb g9 89 #[.int .i64 (bs.length:Int),.slice va n vc]::riOb va ids::blOb B E::rsOb d.A bs::tpOb tg A cap L (5+m)::l)) w16):=SW.few (pre:=[_,_,_,_,_,_,_,_,_,_,_]) s16 [6,7,8,9,2,3,4,10] (n:=11) rfl (by decide) (by decide);clear s16 S15 S14 hfl hsr e16 HRL kc m1;go_wp2_with (go_at_call 57;(with_reducible refine HDI.out.mono ?_);refine halt_ ?_)
 rintro e w17 ⟨vd,rfl,hvd,hb17⟩;have HVD:=hid hvd;have S17:=hid (S16.out.on hb17);clear hvd hb17 HDI S16;cases vd with
 | false=>
  go_wp2_with fail
  go_ret;exact ⟨rfl,S17.out.2⟩
 | true=>
  have hdi:=distB_inj (HVD.out rfl);rw [List.map_cons,HEC.out] at hdi;have hQ:TS (moreB::cutsF c bs):=TS.cuts hbl H4.out (by decide) (by decide) hdi
  have hEQ:∀ e∈E,e.bs∈moreB::cutsF c bs:=fun e he=>by
   rw [<- HEC.out];exact zA _ (List.mem_map.2 ⟨e,he,rfl⟩)
  have hM:moreB∈moreB::cutsF c bs:=zC ..; have hCl:(cutsF c bs).length=n:=by rw [<- HEC.out,zE,Hn.out]
  obtain ⟨Q,HQe⟩:∃ Q,Hid (moreB::cutsF c bs=Q):=⟨_,rfl⟩;obtain ⟨PC,HPC⟩:∃ PC,Hid (cutsF c bs=PC):=⟨_,rfl⟩;rw [HQe.out] at hQ hEQ hM;rw [HPC.out] at hCl HEC;have HQ:=hid hQ;have HEQ:=hid hEQ;have HM:=hid hM;have HCL:=hid hCl;have S18:Hid (SW w.heap.size w (x0.obs (tpOb tg A cap L (5+m)::cellOb g9 89 #[.int .i64 (bs.length:Int),.slice va n vc]::riOb va ids::blOb B E::rsOb d.A bs::l)) w17):=SW.front (pre:=[_,_,_,_,_,_,_,_,_]) S17.out [0,1,2,3,8,4,5,6,7] (n:=9) rfl (by decide);clear S17 hdi hQ hEQ hM hCl HVD;go_wp2_with fail
  go_loopw [12] (fun s12 wr=>∃ (k:Nat) (x:SR),k<=n/\s12= .int .i64 (k:Int)/\Hid (Cl [fileN nmS] x/\LayS x/\TQ Q x (PC.take k)/\x.ps=ps/\x.p=dp/\x.nm=nmS/\x.s.ops=[])/\SW w.heap.size w (x.obs (tpOb tg A cap L (5+m)::cellOb g9 89 #[.int .i64 (bs.length:Int),.slice va n vc]::riOb va ids::blOb B E::rsOb d.A bs::l)) wr) (fun s12 _=>n-(intOf s12).toNat)
  case atStart=>exact ⟨0,x0,Nat.zero_le _,rfl,⟨C0.out,(fun f hf=>by rw [X0.out.2.1] at hf;cases hf),TQ.empty X0.out.1,HPS.out,X0.out.2.2.2.1,X0.out.2.2.1,X0.out.2.2.2.2⟩,S18.out⟩
  clear S18 C0 X0 HPS S12;obtain ⟨k,x,hk,rfl,HX,hs⟩:=hrel;have S19:=hid hs;clear hs;have HXP:Hid (x.ps=ps):=HX.out.2.2.2.1;by_cases hlt:k<n
  · have hltE:k<E.length:=by rw [Hn.out];exact hlt
    have hltI:k<ids.length:=by rw [hil];exact hlt
    obtain ⟨e,HE⟩:∃ e,Hid (E.getD k bs0=e):=⟨_,rfl⟩;have HEM:Hid (e∈E):=by rw [Hid, <- HE.out];exact getD_mem _ _ _ hltE
    obtain ⟨i,HI⟩:∃ i,Hid (fpOf e.bs=i):=⟨_,rfl⟩;have HIK:Hid (ids.getD k id0=i):=by rw [Hid, <- HID.out,idS_at hltE HE.out,HI.out]
    have HTK:Hid (PC.take (k+1)=PC.take k++[e.bs]):=by
     have h1:k<PC.length:=by rw [HCL.out];exact hlt
     have h2:PC.getD k []=e.bs:=by
      rw [<- HEC.out, <- HE.out,zB,zB,List.getElem?_map,zH hltE];rfl
     rw [Hid,take_snoc _ [] _ h1,h2]
    have HCJ:Hid (∀ (W:World) (M:List Ob),SW w.heap.size w M W->riOb va ids∈M->blOb B E∈M->∃ gI gE,va=some ⟨gI,0,none⟩/\B=some ⟨gE,0,none⟩/\W.cell? ⟨gI,k*2,none⟩=some (.int .u64 i.1)/\W.cell? ⟨gI,k*2+1,none⟩=some (.int .i64 i.2)/\W.cell? ⟨gE,k,none⟩=some (.slice e.d.A e.bs.length e.d.cap)/\RB W e.d e.bs):=fun W M hS h1 h2=>by
     obtain ⟨gI,e1,a0,a1⟩:=hS.rowCell (A:=va) (ids:=ids) h1 hltI HIK.out;obtain ⟨gE,e2,_,a2,a3⟩:=blOb_at (hS.1.holds (blOb B E) h2) hltE HE.out;rw [<- a3.1] at a2;exact ⟨gI,gE,e1,e2,a0,a1,a2,a3⟩
    obtain ⟨gI,gE,hva,hB,a0,a1,a2,a3⟩:=HCJ.out _ _ S19.out (by simp [SR.obs]) (by simp [SR.obs])
    have HCK:Hid (∀ (W:World) (M:List Ob),SW w.heap.size w M W->riOb va ids∈M->blOb B E∈M->W.cell? ⟨gI,k*2,none⟩=some (.int .u64 i.1)/\W.cell? ⟨gI,k*2+1,none⟩=some (.int .i64 i.2)):=fun W M hS h1 h2=>by
     obtain ⟨gI',gE',e1,e2,b0,b1,_⟩:=HCJ.out W M hS h1 h2;rw [hva] at e1;injection e1 with e1;injection e1 with e1;rw [e1];exact ⟨b0,b1⟩
    have HPU:=hid (Put_Q S19.out HX.out.1 HQ.out HX.out.2.2.1 e.d.A e.d.cap e.bs a3.rs (HEQ.out e HEM.out));rw [HXP.out] at HPU;have HVA:=hid hva;have HBB:=hid hB;rw [hB];have hki:(k:Int)<(n:Int):=by omega
    clear hva hB a0 a1 a3;go_wp2_with (go_at_call 23;(with_reducible refine HPU.out.mono ?_);refine halt_ ?_)
    rintro e2 w20 ⟨rfl,x2,s20,hc20,ht20,hp20,hd20,hn20,_,hs20,hl20⟩;have HX2:Hid (Cl [fileN nmS] x2/\LayS x2/\TQ Q x2 (PC.take (k+1))/\x2.ps=ps/\x2.p=dp/\x2.nm=nmS/\x2.s.ops=[]):=⟨hc20,hl20 HX.out.2.1,by rw [HTK.out];exact ht20,hp20.trans HXP.out,hd20.trans HX.out.2.2.2.2.1,hn20.trans HX.out.2.2.2.2.2.1,by rw [hs20];exact HX.out.2.2.2.2.2.2⟩;rw [HI.out];have S20:Hid (SW w.heap.size w (cellOb w20.heap.size 31 #[.int .u64 i.1,.int .i64 i.2]::x2.obs (tpOb tg A cap L (5+m)::cellOb g9 89 #[.int .i64 (bs.length:Int),.slice va n vc]::riOb va ids::blOb B E::rsOb d.A bs::l)) _):=s20.newCell 31 #[.int .u64 i.1,.int .i64 i.2];clear s20 hc20 ht20 hp20 hd20 hn20 hs20 hl20 HPU a2 S19 HX HXP;go_upto_region 17 with fail
    generalize w20.alloc _=W20 at S20 |-; generalize w20.heap.size=g13 at S20 |-; rw [HVA.out] at S20;have S21:=hid S20.out.drew;refine wp_region_held_tail [(0,true),(1,true),(2,true),(3,true),(4,true),(5,true),(6,true),(7,true),(8,true)] (fun w'=>w'.cell? ⟨g13,0,none⟩=some (.int .u64 i.1)/\w'.cell? ⟨g13,1,none⟩=some (.int .i64 i.2)/\w'.cell? ⟨g9,1,none⟩=some (.slice (some ⟨gI,0,none⟩) n vc)/\w'.cell? ⟨gI,k*2,none⟩=some (.int .u64 i.1)/\w'.cell? ⟨gI,k*2+1,none⟩=some (.int .i64 i.2)) (by kernel_rfl) (fun _ _ d _ _ h=>by cases d<;>exact h) (by kernel_rfl) (⟨(S21.out.cell 0 rfl).cell 0,(S21.out.cell 0 rfl).cell 1,(S21.out.cell 6 rfl).cell 1,(HCK.out _ _ S21.out (by simp [SR.obs,HVA.out]) (by simp [SR.obs])).1,(HCK.out _ _ S21.out (by simp [SR.obs,HVA.out]) (by simp [SR.obs])).2⟩) ?_;simp only [pk_]
    iterate 9
     (refine wpHeld_take (v:=?_) (Or.inl ⟨by rfl,?_⟩) ?_
      rotate_left
      · (intro w' hSw;obtain ⟨h1,h2,h3,h4,h5⟩:=hSw;go_simp;try with_reducible rfl)
      try simp only [Act.put,zI,List.set])
    refine wpHeld_nil ?_;simp only [dz_];have S22:Hid (SW w.heap.size w (x2.obs (tpOb tg A cap L (5+m)::cellOb g9 89 #[.int .i64 (bs.length:Int),.slice va n vc]::riOb va ids::blOb B E::rsOb d.A bs::l)) W20.drew):=by rw [HVA.out];exact S21.out.tail
    clear S20 S21 HCK HCJ;go_wp2_with fail
    go_roundw
    case rel=>exact ⟨k+1,x2,by omega,by go_num,HX2.out,by rw [<- HBB.out];exact S22.out⟩
    simp [intOf];omega
  obtain rfl:n=k:=by omega
  have hft:PC.take n=PC:=zG (by rw [HCL.out];exact Nat.le_refl _);rw [hft] at HX;have HFL:=hid (Flush_Q S19.out HX.out.1 HQ.out HX.out.2.1 HX.out.2.2.1);rw [HXP.out] at HFL;clear hft;go_wp2_with (go_at_call 35;(with_reducible refine HFL.out.mono ?_);refine halt_ ?_)
  rintro e2 w20 ⟨rfl,x2,s20,hc20,hf20⟩;have ht20:=HX.out.2.2.1.flush hf20;have HLO:=hid (lost_shutQ hc20 (hf20.nm.trans HX.out.2.2.2.2.2.1) (hf20.lay HX.out.2.1) HQ.out ht20 hf20.done (hf20.ops HX.out.2.2.2.2.2.2));have HOP2:Hid (x2.s.ops=[]):=hf20.ops HX.out.2.2.2.2.2.2;have HP2:Hid (x2.ps=ps):=hf20.ps.trans HXP.out;have HD2:Hid (x2.p=dp):=hf20.p.trans HX.out.2.2.2.2.1;have S20:Hid (SW w.heap.size w (rsOb (some ⟨w20.heap.size,0,none⟩) moreB::x2.obs (tpOb tg A cap L (5+m)::cellOb g9 89 #[.int .i64 (bs.length:Int),.slice va n vc]::riOb va ids::blOb B E::rsOb d.A bs::l)) (w20.alloc (.cells #[.int .u8 109,.int .u8 111,.int .u8 114,.int .u8 101] 5 (4,5)))):=s20.newMore rfl (4,5);have S21:Hid (SW w.heap.size w (x2.obs (rsOb (some ⟨w20.heap.size,0,none⟩) moreB::tpOb tg A cap L (5+m)::cellOb g9 89 #[.int .i64 (bs.length:Int),.slice va n vc]::riOb va ids::blOb B E::rsOb d.A bs::l)) (w20.alloc (.cells #[.int .u8 109,.int .u8 111,.int .u8 114,.int .u8 101] 5 (4,5)))):=SW.front (pre:=[_,_,_,_,_]) S20.out [1,2,3,4,0] (n:=5) rfl (by decide);have HPU:=hid (Put_Q S21.out hc20 HQ.out ht20 (some ⟨w20.heap.size,0,none⟩) 4 moreB (S21.out.get 4 (o:=rsOb (some ⟨w20.heap.size,0,none⟩) moreB) rfl) HM.out);rw [HP2.out,show moreB.length=4 from rfl] at HPU
  have kc:=fun (w:World) (C:Array Value) (n c:Nat)=>Lib.run_convert_bytes_const (P:=Tryz.prog) w 34 5 C n c Tryz.underlying34 Tryz.underlying5;clear s20 hc20 hf20 ht20 HFL HX HXP S19 S20 S21;go_upto_region 21 with fail
  go_wp2_with (go_at_call 23;(with_reducible refine HPU.out.mono ?_);refine halt_ ?_)
  rintro e2 w21 ⟨rfl,x3,s22,hc22,ht22,hp22,hd22,hn22,_,hs22,hl22⟩;have S22:Hid (SW w.heap.size w (x3.obs (tpOb tg A cap L (5+m)::cellOb g9 89 #[.int .i64 (bs.length:Int),.slice va n vc]::riOb va ids::blOb B E::rsOb d.A bs::l)) w21):=SW.few (pre:=[_,_,_,_,_,_]) s22 [0,1,2,3,5] (n:=6) rfl (by decide) (by decide);rw [<- hs22] at HLO HOP2;have HD3:Hid (x3.p=dp):=hd22.trans HD2.out
  have S23:Hid (SW w.heap.size w (devOb dp x3.r x3.s::tpOb tg A cap L (5+m)::cellOb g9 89 #[.int .i64 (bs.length:Int),.slice va n vc]::riOb va ids::blOb B E::rsOb d.A bs::l) w21):=by
   have:=SW.few (pre:=[_,_,_,_,_]) S22.out [0,4] (n:=5) rfl (by decide) (by decide);rw [<- HD3.out];exact this
  clear s22 hc22 ht22 hp22 hd22 hn22 hs22 hl22 HPU S22 HP2 HD2 kc;generalize fpOf moreB=fm;obtain ⟨rp3,HR3⟩:∃ r,Hid (x3.r=r):=⟨_,rfl⟩;obtain ⟨s3,HS3⟩:∃ s,Hid (x3.s=s):=⟨_,rfl⟩;rw [HR3.out,HS3.out] at S23;rw [HS3.out] at HLO HOP2;clear HR3 HS3 HD3;go_upto_region 24 with fail
  generalize hW:w21.alloc _=W21;have S24:Hid (SW w.heap.size w (devOb dp rp3 s3::tpOb tg A cap L (5+m)::cellOb g9 89 #[.int .i64 (bs.length:Int),.slice va n vc]::riOb va ids::blOb B E::rsOb d.A bs::l) W21):=by rw [<- hW];exact S23.out.alloc _
  clear hW S23;have HN3:Hid (Calls Tryz.prog 33 #[vPtr tg,.int .i64 3] W21 (fun e w'=>e= .returned (.int .i64 (tnext L (5+m) 3))/\SW w.heap.size w (devOb dp rp3 s3::tpOb tg A cap L (5+m+1)::cellOb g9 89 #[.int .i64 (bs.length:Int),.slice va n vc]::riOb va ids::blOb B E::rsOb d.A bs::l) w')):=Next_x S24.out 1 rfl 3 (by omega) (by omega);obtain ⟨kp,HKP⟩:∃ kp,Hid (tnext L (5+m) 3=kp):=⟨_,rfl⟩;rw [HKP.out] at HN3;go_wp2_with (go_at_call 33;(with_reducible refine HN3.out.mono ?_);refine halt_ ?_)
  rintro e2 w22 ⟨rfl,s22⟩;have S25:=hid s22;have HN9:Hid (Calls Tryz.prog 33 #[vPtr tg,.int .i64 9] w22 (fun e w'=>e= .returned (.int .i64 (tnext L (5+m+1) 9))/\SW w.heap.size w (devOb dp rp3 s3::tpOb tg A cap L (5+m+1+1)::cellOb g9 89 #[.int .i64 (bs.length:Int),.slice va n vc]::riOb va ids::blOb B E::rsOb d.A bs::l) w')):=Next_x S25.out 1 rfl 9 (by omega) (by omega);obtain ⟨tv,HTV⟩:∃ tv,Hid (tnext L (5+m+1) 9=tv):=⟨_,rfl⟩;obtain ⟨ht0,ht1⟩:=tnext_in L (5+m+1) 9;have ht1:=ht1 (by omega);rw [HTV.out] at ht0 ht1 HN9;clear s22 HN3 S24;go_wp2_with (go_at_call 33;(with_reducible refine HN9.out.mono ?_);refine halt_ ?_)
  rintro e2 w23 ⟨rfl,s23⟩;have S26:=hid s23;have hw1:IntKind.i64.wrap (tv-1)=tv-1:=IntWalk.i64_in _ (by omega);clear s23 HN9 S25;go_wp2_with (go_at_call 51;(with_reducible refine (Lose_S S26.out (k:=0) rfl kp (tv-1) (by rw [HOP2.out];simp) (by omega)).mono ?_);refine halt_ ?_)
  rintro e2 w24 ⟨rfl,r7,s24⟩;have S27:Hid (SW w.heap.size w (devOb dp r7 (loseS s3 kp (tv-1))::tpOb tg A cap L (5+m+1+1)::cellOb g9 89 #[.int .i64 (bs.length:Int),.slice va n vc]::riOb va ids::blOb B E::rsOb d.A bs::l) w24):=s24;have HRE:=hid (Restart_S S27.out (k:=0) rfl (by simp [loseS,decideS]));clear s24 S26;go_wp2_with (go_at_call 52;(with_reducible refine HRE.out.mono ?_);refine halt_ ?_)
  rintro e2 w25 ⟨rfl,r8,s25⟩;have S28:Hid (SW w.heap.size w (devOb dp r8 (restartS (loseS s3 kp (tv-1)))::tpOb tg A cap L (5+m+1+1)::cellOb g9 89 #[.int .i64 (bs.length:Int),.slice va n vc]::riOb va ids::blOb B E::rsOb d.A bs::l) w25):=s25;rw [lost_s] at S28;obtain ⟨hdi,hsh⟩:=HLO.out kp (tv-1);have HOP:=hid (open_lostQ S28.out H0.out HSY.out HQ.out hdi hsh);clear s25 HRE S27 hdi hsh HLO HOP2;go_wp2_with (go_at_call 20;(with_reducible refine HOP.out.mono ?_);refine halt_ ?_)
  rintro e2 w26 ⟨x4,rfl,s26,ho4⟩;have OP:=hid ho4;have S29:Hid (SW w.heap.size w (rowOb 65 3 (.slice none 0 0) 0 []::bufsOb []::x4.obs (tpOb tg A cap L (5+m+1+1)::cellOb g9 89 #[.int .i64 (bs.length:Int),.slice va n vc]::riOb va ids::blOb B E::rsOb d.A bs::l)) w26):=(SW.noBufs s26).newRow 65 3;obtain ⟨ps4,HPS4⟩:∃ ps4,Hid (x4.ps=ps4):=⟨_,rfl⟩;rw [HPS4.out];obtain ⟨j1,gj,gy0,gy1,gy2⟩:=info_parts info65';clear s26 ho4 HOP S28 hw1;go_wp2_with fail
  rename World=>wz;go_loopw [17,18] (fun s17 s18 wr=>∃ (k:Nat) (K:List CH) (F:Option Addr) (fc:Nat),k<=n/\K.length=k/\s18= .int .i64 (k:Int)/\s17= .slice F K.length fc/\Hid ((∀ q∈K,fpOf q.2.bs=q.1/\q.2.bs∈Q)/\K.map (·.1)=ids.take k)/\SW w.heap.size w (rowOb 65 3 (.slice F K.length fc) K.length (K.flatMap encCH)::bufsOb (K.map (·.2))::x4.obs (tpOb tg A cap L (5+m+1+1)::cellOb g9 89 #[.int .i64 (bs.length:Int),.slice va n vc]::riOb va ids::blOb B E::rsOb d.A bs::l)) wr) (fun _ s18 _=>n-(intOf s18).toNat)
  case atStart=>exact ⟨0,[],none,0,Nat.zero_le _,rfl,rfl,rfl,⟨(fun q hq=>by cases hq),rfl⟩,S29.out⟩
  rename World=>wv;obtain ⟨k,K,F,fc,hk,hKl,rfl,rfl,HKK,hs⟩:=hrel;have S30:=hid hs;have HKL:=hid hKl;clear hs hKl S29;by_cases hlt:k<n
  · have hltE:k<E.length:=by rw [Hn.out];exact hlt
    have hltI:k<ids.length:=by rw [hil];exact hlt
    obtain ⟨e,HE⟩:∃ e,Hid (E.getD k bs0=e):=⟨_,rfl⟩;have HEM:Hid (e∈E):=by rw [Hid, <- HE.out];exact getD_mem _ _ _ hltE
    obtain ⟨i,HI⟩:∃ i,Hid (fpOf e.bs=i):=⟨_,rfl⟩;have HIK:Hid (ids.getD k id0=i):=by rw [Hid, <- HID.out,idS_at hltE HE.out,HI.out]
    have hio:okID i:=by rw [<- HI.out];exact okID_fp _ (by have:=(HEL.out e HEM.out).2;omega)
    have hv:valC x4 i=some e.bs:=by
     rw [<- HI.out];exact OP.out.tx.val e.bs (by rw [<- HEC.out];exact List.mem_map.2 ⟨e,HEM.out,rfl⟩)
    have S31:Hid (SW w.heap.size w (x4.obs (rowOb 65 3 (.slice F K.length fc) K.length (K.flatMap encCH)::bufsOb (K.map (·.2))::tpOb tg A cap L (5+m+1+1)::cellOb g9 89 #[.int .i64 (bs.length:Int),.slice va n vc]::riOb va ids::blOb B E::rsOb d.A bs::l)) wv):=SW.front (pre:=[_,_,_,_,_,_]) S30.out [2,3,4,5,0,1] (n:=6) rfl (by decide);have HG:=hid (Get_L S31.out OP.out.cl i hio e.bs hv);rw [HPS4.out] at HG;obtain ⟨gI,hva,a0,a1⟩:=S31.out.rowCell (A:=va) (ids:=ids) (by simp [SR.obs]) hltI HIK.out;have HVA:=hid hva
    have HCE:Hid (∀ (W:World) (M:List Ob),SW w.heap.size w M W->riOb va ids∈M->W.cell? ⟨gI,k*2,none⟩=some (.int .u64 i.1)/\W.cell? ⟨gI,k*2+1,none⟩=some (.int .i64 i.2)):=fun W M hS h1=>by
     obtain ⟨gI',e1,b0,b1⟩:=hS.rowCell (A:=va) (ids:=ids) h1 hltI HIK.out;rw [HVA.out] at e1;injection e1 with e1;injection e1 with e1;rw [e1];exact ⟨b0,b1⟩
    have m1:wv.cell? ⟨g9,1,none⟩=some (.slice va n vc):=(S31.out.cell 7 rfl).cell 1;rw [HVA.out] at m1;have hki:(k:Int)<(n:Int):=by omega
    clear hv hio S30 hva;go_wp2_with (go_at_call 30;(with_reducible refine HG.out.mono ?_);refine halt_ ?_)
    rintro e2 w27 ⟨d2,rfl,s27⟩;have S32:Hid (SW w.heap.size w (bufOb d2 e.bs::rowOb 65 3 (.slice F K.length fc) K.length (K.flatMap encCH)::bufsOb (K.map (·.2))::x4.obs (tpOb tg A cap L (5+m+1+1)::cellOb g9 89 #[.int .i64 (bs.length:Int),.slice va n vc]::riOb va ids::blOb B E::rsOb d.A bs::l)) w27):=SW.front (pre:=[_,_,_,_,_,_,_]) s27 [4,5,6,0,1,2,3] (n:=7) rfl (by decide);obtain ⟨a0,a1⟩:=HCE.out _ _ S32.out (by simp [SR.obs]);have m1:w27.cell? ⟨g9,1,none⟩=some (.slice va n vc):=(S32.out.cell 8 rfl).cell 1;rw [HVA.out] at m1
    have HK2:Hid ((∀ q∈K++[((i,⟨d2,e.bs⟩):CH)],fpOf q.2.bs=q.1/\q.2.bs∈Q)/\(K++[((i,⟨d2,e.bs⟩):CH)]).map (·.1)=ids.take (k+1)):=by
     refine ⟨fun q hq=>?_,?_⟩
     · rcases List.mem_append.1 hq with hq | hq
       · exact HKK.out.1 q hq
       rw [List.mem_singleton.1 hq];exact ⟨HI.out,HEQ.out e HEM.out⟩
     rw [zF,HKK.out.2,take_snoc _ id0 _ hltI,HIK.out];rfl
    clear s27 HG S31;go_wp2_with (at_builtin;(refine wpList_rowS (t:=51) (e:=65) (size:=3) (bytes:=40) (i:=j1) (S32.out.alloc _) 1 rfl (by rfl) (.tmp 164) (.tmp 172) (by rfl) Tryz.underlying51 gj gy0 gy1 gy2 rfl (by have:=HKL.out;omega) (by rfl) ⟨w27.heap.size,0,none⟩ 1 [.int .u64 i.1,.int .i64 i.2,.slice d2.A d2.len d2.cap] (by rfl) rfl (three_new w27 _ _ _ 65 _ rfl) (encCH_one (i,⟨d2,e.bs⟩)) (by have:=HKL.out;unfold maxLen;omega) (by have:=HKL.out;omega) ?_);refine halt_ ?_)
    intro v4 w28 s28;obtain ⟨g4,c4,rfl⟩:=own_some (s28.get 1 rfl) (by omega)
    have s29:SW w.heap.size w (bufOb d2 e.bs::rowOb 65 3 (.slice (some ⟨g4,0,none⟩) (K++[((i,⟨d2,e.bs⟩):CH)]).length c4) (K++[((i,⟨d2,e.bs⟩):CH)]).length ((K++[((i,⟨d2,e.bs⟩):CH)]).flatMap encCH)::bufsOb (K.map (·.2))::x4.obs (tpOb tg A cap L (5+m+1+1)::cellOb g9 89 #[.int .i64 (bs.length:Int),.slice va n vc]::riOb va ids::blOb B E::rsOb d.A bs::l)) w28:=by
     rw [List.flatMap_append,List.length_append];exact s28
    have S33:Hid (SW w.heap.size w (rowOb 65 3 (.slice (some ⟨g4,0,none⟩) (K++[((i,⟨d2,e.bs⟩):CH)]).length c4) (K++[((i,⟨d2,e.bs⟩):CH)]).length ((K++[((i,⟨d2,e.bs⟩):CH)]).flatMap encCH)::bufsOb ((K++[((i,⟨d2,e.bs⟩):CH)]).map (·.2))::x4.obs (tpOb tg A cap L (5+m+1+1)::cellOb g9 89 #[.int .i64 (bs.length:Int),.slice va n vc]::riOb va ids::blOb B E::rsOb d.A bs::l)) w28):=by
     rw [Hid,zF];exact SW.front (pre:=[_,_]) ((SW.front (pre:=[_,_,_]) s29 [0,2,1] (n:=3) rfl (by decide)).fuseB) [1,0] (n:=2) rfl (by decide)
    have hKl2:(K++[((i,⟨d2,e.bs⟩):CH)]).length=K.length+1:=by rw [List.length_append];rfl
    rw [<- hKl2];generalize K++[((i,⟨d2,e.bs⟩):CH)]=K2 at S33 HK2 hKl2;clear s28 s29 S32 m1 a0 a1;go_wp2_with fail
    go_roundw
    case rel=>exact ⟨k+1,K2,some ⟨g4,0,none⟩,c4,by omega,by have:=HKL.out;omega,by go_num,rfl,HK2.out,S33.out⟩
    simp [intOf];omega
  obtain rfl:n=k:=by omega
  have hKK:=HKK.out;rw [zG (by omega)] at hKK;have HK3:=hid hKK;obtain ⟨hjo,hle⟩:=join_cuts (E:=E) (c:=c) (bs:=bs) (by rw [HEC.out,HPC.out]);have HLS:Hid (∀ e∈E,e.bs∈Q):=HEQ.out
  have HMN:Hid (manE ⟨((bs.length:Nat):Int),ids⟩=0):=by
   have:=manE_idS (T:=E) (by rw [Hn.out];omega) (fun e he=>by have:=HEL.out e he;omega);rw [hle,HID.out] at this;exact this
  have S31:=hid S30.out.fuseCk;have m0:wv.cell? ⟨g9,0,none⟩=some (.int .i64 (bs.length:Int)):=(S31.out.cell 6 rfl).cell 0;have m1:wv.cell? ⟨g9,1,none⟩=some (.slice va n vc):=(S31.out.cell 6 rfl).cell 1
  have HAS:=hid (Assemble_any S31.out bs.length ids va vc (by simp [SR.obs]) HMN.out fc (C:=F) (T:=K) (by simp) (fun q hq=>by
   have h1:=(HK3.out.1 q hq);rw [<- h1.1];exact okID_fp _ (by have:=HQ.out.hi _ h1.2;omega)) (by have:=HKL.out;omega) (fun i hi=>by
   have h1:=fst_has (K:=K) i (by rw [HK3.out.2];exact hi);cases hx:asc (fstL K) i with
   | none=>rw [hx] at h1;cases h1
   | some e=>exact ⟨e,rfl,(HK3.out.1 _ (fstL_mem hx)).1⟩))
  have HAJ:Hid (asmL K ids=bs):=by
   rw [Hid, <- hjo, <- HID.out];exact asm_joinQ HQ.out HEQ.out HK3.out.1 (fun i hi=>fst_has (K:=K) i (by rw [HK3.out.2, <- HID.out];exact hi))
  rw [HAJ.out,hil] at HAS;clear hKK HKK S30 hjo hle HAJ;go_wp2_with (go_at_call 58;(with_reducible refine HAS.out.mono ?_);refine halt_ ?_)
  rintro e2 w27 ⟨d3,rfl,s27⟩;have S32:Hid (SW w.heap.size w (x4.obs (bufOb d3 bs::ckOb F K::tpOb tg A cap L (5+m+1+1)::cellOb g9 89 #[.int .i64 (bs.length:Int),.slice va n vc]::riOb va ids::blOb B E::rsOb d.A bs::l)) w27):=SW.front (pre:=[_,_,_,_,_,_]) s27 [2,3,4,5,0,1] (n:=6) rfl (by decide);clear s27 HAS S31 m0 m1;go_upto_region 38 with fail
  have S33:=hid S32.out.drew
  have HI2:Hid (∀ W,SW w.heap.size w (x4.obs (bufOb d3 bs::ckOb F K::tpOb tg A cap L (5+m+1+1)::cellOb g9 89 #[.int .i64 (bs.length:Int),.slice va n vc]::riOb va ids::blOb B E::rsOb d.A bs::l)) W->Calls Tryz.prog 28 #[vPtr ps4] W (fun e w'=>∃ A0 c ys,e= .returned (.slice A0 ys.length c)/\ys.Perm (x4.C.map (·.1))/\SortedI ys/\SW w.heap.size w (riOb A0 ys::x4.obs (bufOb d3 bs::ckOb F K::tpOb tg A cap L (5+m+1+1)::cellOb g9 89 #[.int .i64 (bs.length:Int),.slice va n vc]::riOb va ids::blOb B E::rsOb d.A bs::l)) w')):=fun W hW=>by
   have:=IDs_S (x:=x4) hW (by have:=OP.out.tx.few HQ.out OP.out.cl.keys;omega);rw [HPS4.out] at this;exact this
  refine wp_region_held_tail [(0,true),(1,true),(2,false),(3,false),(4,true),(5,true),(6,true),(7,true)] (fun w'=>w'.cell? ⟨g9,0,none⟩=some (.int .i64 (bs.length:Int))/\w'.cell? ⟨g9,1,none⟩=some (.slice va n vc)) (by kernel_rfl) (fun _ _ d _ _ h=>by cases d<;>exact h) (by kernel_rfl) ⟨(S33.out.cell 7 rfl).cell 0,(S33.out.cell 7 rfl).cell 1⟩ ?_;simp only [pk_]
  (refine wpHeld_take (v:=?_) (Or.inl ⟨by rfl,?_⟩) ?_
   rotate_left
   · (intro w' hSw;obtain ⟨h1,h2⟩:=hSw;go_simp;try with_reducible rfl)
   try simp only [Act.put,zI,List.set])
  (refine wpHeld_take (v:=?_) (Or.inl ⟨by rfl,?_⟩) ?_
   rotate_left
   · (intro w' hSw;obtain ⟨h1,h2⟩:=hSw;go_simp;try with_reducible rfl)
   try simp only [Act.put,zI,List.set])
  refine wpHeld_run (fun K0 hK=>?_);go_simp;go_at_call 28
  refine (HI2.out _ S33.out).mono ?_;rintro e2 w28 ⟨IA,ic,iy,rfl,hpi,hsi,s28⟩;have S34:=hid s28
  have hsub:∀ i∈ids,i∈iy:=fun i hi=>by
   rw [<- HID.out] at hi;obtain ⟨e,he,rfl⟩:=List.mem_map.1 hi;refine hpi.mem_iff.2 (asc_key.1 ?_);rw [OP.out.tx.has,decide_eq_true (List.mem_map.2 ⟨e.bs,by rw [<- HEC.out];exact List.mem_map.2 ⟨e,he,rfl⟩,rfl⟩)]
  have hiok:∀ i∈iy,okID i:=fun i hi=>by
   obtain ⟨t,_,e,ht⟩:=OP.out.tx.key (hpi.mem_iff.1 hi);rw [<- e];exact okID_fp _ (by have:=HQ.out.hi _ ht;omega)
  have hiy:iy.length<=49:=by
   have h1:=hpi.length_eq;have h2:=OP.out.tx.few HQ.out OP.out.cl.keys;rw [zE] at h1;omega
  have HMI:=hid (missing_any S34.out (bs.length:Int) (A:=va) (ids:=ids) (by simp [SR.obs]) vc HMN.out (B:=IA) (hv:=iy) (by simp) ic hsub hiok (by omega));rw [hil] at HMI;clear s28 hpi hsi hsub hiok HI2 S33 S32;go_wp2_with fail
  refine hK.out _ _ ⟨(S34.out.cell 8 rfl).cell 0,(S34.out.cell 8 rfl).cell 1⟩ ?_;clear hK;try simp only [Act.put,zI,List.set]
  refine wpHeld_run (fun K1 hK=>?_);go_simp;go_at_call 59
  refine HMI.out.mono ?_;rintro e2 w29 ⟨rfl,s29⟩;have S35:=hid s29;clear s29 HMI S34;go_wp2_with fail
  refine hK.out _ _ ⟨(S35.out.cell 8 rfl).cell 0,(S35.out.cell 8 rfl).cell 1⟩ ?_;clear hK;try simp only [Act.put,zI,List.set]
  iterate 4
   (refine wpHeld_take (v:=?_) (Or.inl ⟨by rfl,?_⟩) ?_
    rotate_left
    · (intro w' hSw;obtain ⟨h1,h2⟩:=hSw;go_simp;try with_reducible rfl)
    try simp only [Act.put,zI,List.set])
  refine wpHeld_nil ?_;simp only [dz_];have v1:=conv_rb (S35.out.get 5 (o:=bufOb d3 bs) rfl);have v2:=conv_rs (d:=d) (S35.out.get 11 (o:=rsOb d.A bs) rfl) HDL.out.symm;rw [HDL.out] at v2;go_wp2_with fail
  go_ret;exact ⟨rfl,S35.out.2⟩
end
end
section
open Go.RowKit Go.MapKept Go.ChangeMaps Go.Shelf Go.Sort
end
section
open Go.RowKit Go.MapKept Go.ChangeMaps Go.Shelf Go.Sort
attribute [local go_sem] wext_cell
end
end Go.Proofs.YteabgcollokgjaaGreatDoor
