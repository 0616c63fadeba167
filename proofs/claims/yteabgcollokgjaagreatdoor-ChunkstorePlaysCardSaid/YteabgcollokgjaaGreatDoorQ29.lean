/- Q -/
import Derived.Test.YteabgcollokgjaaGreatDoorQ28
set_option linter.unusedSimpArgs false
set_option linter.unusedVariables false
set_option maxRecDepth 100000
set_option maxHeartbeats 32000000
open Go.Lib (hid)
open List renaming mem_cons_self → zA,mem_append → zB
namespace Go.Proofs.YteabgcollokgjaaGreatDoor
section
open Go.RowKit Go.MapKept Go.ChangeMaps Go.Shelf Go.Sort
structure Again (x x':SR):Prop where
 val:∀ i,valC x' i=valC x i
 has:∀ i,(asc x'.C i).isSome=(asc x.C i).isSome
 done:∀ c∈x'.C,∃ o,c.2=Pl.at o
 wait:x'.wait=0
 nm:x'.nm=x.nm
 p:x'.p=x.p
 s:x'.s=x.s
 len:flen x'.F=flen x.F
def AgainL (ns:List ByteArray) (b:Nat) (w0:World) (x:SR) (l:List Ob) (e:Ending) (w':World):Prop:=
 ∃ x':SR,e= .returned (.tuple #[vPtr x'.ps,.int .i64 0])/\SW b w0 (x'.obs l) w'/\Cl ns x'/\LayS x'/\Again x x'
theorem Again_L {ns:List ByteArray} {b:Nat} {w0 w:World} {x:SR} {l:List Ob} (h:SW b w0 (x.obs l) w) (hc:Cl ns x) (hl:LayS x) (hns:∀ m∈ns,m=fileN x.nm) (hp:∀ c∈x.C,∃ o,c.2=Pl.at o):Calls Tryz.prog 20 #[vPtr x.p,.string x.nm] w (AgainL ns b w0 x l):=by
 have h3:Sep b w (devOb x.p x.r x.s::l):=h.1.sub (List.Sublist.cons_cons _ ((((List.Sublist.refl l).cons _).cons _).cons _));cases hF:x.F with
 | none=>
  obtain ⟨hn1,hn2⟩:=hc.no hF
  have hC:x.C=[]:=by
   cases hC:x.C with
   | nil=>rfl
   | cons c C=>
    have hm:c∈x.C:=by rw [hC];simp
    obtain ⟨o,e⟩:=hp c hm;obtain ⟨i,pl⟩:=c;simp only at e;subst e;exact absurd hm (hn2 i o)
  have he:∀ m,x.s.now m=none:=fun m=>by
   cases hm:x.s.now m with
   | none=>rfl
   | some v=>
    have h1:=hns m (hc.ns3 m (by rw [hm];rfl));rw [h1,hn1] at hm;cases hm
  refine (Open_empty h3 x.nm hc.nv hc.up he).mono ?_;rintro e w' ⟨H,hH,rfl,hs⟩;refine ⟨openedS x.p x.r x.s x.nm H,rfl,h.then hs,opened_cl hc.nv hc.up hc.f0 he hc.ops hc.ns1 hc.ns2,fun f hf=>(by cases hf),⟨fun i=>?_,fun i=>?_,fun c hcc=>(by cases hcc),rfl,rfl,rfl,rfl,by rw [hF];rfl⟩⟩
  · unfold valC;rw [hC];rfl
  rw [hC];rfl
 | some f=>
  obtain ⟨D,hD,hlay⟩:=hl f hF;obtain ⟨h1,h2⟩:=readE_ok hc.up (nameB_file hc.nv) hD;refine (Open_one h3 x.nm D hc.nv hc.up (fun m=>⟨fun hm=>hns m (hc.ns3 m hm),fun e=>by rw [e,hD];rfl⟩) h1 h2).mono ?_;rintro e w' ⟨H,fb,sb,hH,rfl,hs⟩;obtain ⟨c1,c2,c3⟩:=reopen_cl (H:=H) (fb:=fb) (sb:=sb) hc hF hD hlay hp;obtain ⟨_,D',hD',hDl,_⟩:=hc.file f hF;rw [hD] at hD';injection hD' with hD';refine ⟨_,rfl,h.then hs,c1,c2,⟨fun i=>?_,fun i=>by rw [c3 i],fun c hcc=>?_,rfl,rfl,rfl,rfl,by rw [hF];show D.length=f.len;rw [hD',hDl]⟩⟩
  · unfold valC;rw [c3 i];rfl
  obtain ⟨i,pl⟩:=c;have ha:=asc_mem c1.keys hcc;rw [c3 i] at ha;exact hp _ (mem_of_asc ha)
theorem TX.again {x x':SR} {P:List (List UInt8)} (h:TX x P) (ha:Again x x'):TX x' P:=⟨fun i=>(ha.has i).trans (h.has i),fun bs hb=>(ha.val _).trans (h.val bs hb),h.text⟩
end
section
open Go.RowKit Go.MapKept Go.ChangeMaps Go.Shelf Go.Sort
attribute [local go_sem] wext_cell
theorem after_drewD {W w5:World} {q:Nat} (h:w5=W.drewN q):Below W.heap.size W w5:=by
 subst h;exact bdrewN (Below.refl W.heap.size W) q
theorem Cl.ents {ns:List ByteArray} {x:SR} (h:Cl ns x) {xs:List Ent} (hp:xs.Perm (durs x.C)) (hx:xs≠[]):∃ f D,x.F=some f/\x.s.now (fileN x.nm)=some D/\∀ e∈xs,∃ o:Nat,e.2=o/\o<=4194304/\1<=e.1.2/\e.1.2<=4194304/\cutOk D e.1 o=true:=by
 have hF:∃ f,x.F=some f:=by
  cases hF:x.F with
  | some f=>exact ⟨f,rfl⟩
  | none=>
   obtain ⟨e,he⟩:=List.exists_mem_of_ne_nil xs hx;exact absurd (durs_mem (hp.mem_iff.1 he)) ((h.no hF).2 _ _)
 obtain ⟨f,hF⟩:=hF;obtain ⟨_,D,hD,_,hc⟩:=h.file f hF;refine ⟨f,D,hF,hD,fun e he=>?_⟩;have hm:=durs_mem (hp.mem_iff.1 he);have h1:=h.ids _ hm;exact ⟨e.2,rfl,h.offs _ _ hm,h1.1,h1.2,hc _ _ hm⟩
theorem Damaged_ok {ns:List ByteArray} {b:Nat} {w0 w:World} {x:SR} {l:List Ob} (h:SW b w0 (x.obs l) w) (hc:Cl ns x):Calls Tryz.prog 48 #[vPtr x.ps] w (fun e w'=>e= .returned (.slice none 0 0)/\SW b w0 (x.obs l) w'):=by
 have S0:=hid h;have HC:=hid hc;have HDN:=hid (fun (W:World) (hW:SW b w0 (x.obs l) W)=>Down_any x.p x.r x.s W hW.1.sdv);rw [hc.up] at HDN;have HEN:=hid (fun (W:World) (hW:SW b w0 (x.obs l) W)=>entries_any x.ps x.cm x.C W (hW.1.scell.cell 2) hW.1.sch (by have:=hc.few;omega) (fun i d bs hm e=>by have:=(hc.pA i d bs hm).1;rw [e] at this;cases this));have p0:w.cell? ⟨x.ps,0,none⟩=some (vPtr x.p):=(h.cell 1 rfl).cell 0
 have p6:w.cell? ⟨x.ps,6,none⟩=some (.bool false):=by
  rw [<- hc.live];exact (h.cell 1 rfl).cell 6
 have HSN:=hid sortN_any;clear h hc;go_enter Tryz.func48,Tryz.ntmps48;go_wp2_with (first | (go_at_call 82;(with_reducible refine (HDN.out _ S0.out).mono ?_);rintro e w1 ⟨rfl,rfl⟩) | (go_at_call 100;refine halt_ ?_))
 refine hid ((HEN.out w S0.out).mono ?_);rintro e w1 ⟨v,xs,am,rfl,ham,hm,hp,_,hv0,hv1,hb1⟩;have S1:=hid (S0.out.on hb1);have HM:=hid hm;have HP:=hid hp;have HV0:=hid hv0;have HV1:=hid hv1;have HB1:=hid hb1;clear hm hp hv0 hv1 hb1 HEN HDN p0 p6;go_wp2_with (at_range;(refine wpList_range_is _ rfl _ 161 rfl 3 163 Tryz.underlying161 am (eM v xs.length) rfl HM.out ?_);intro w2 hrg hg hs;have RI2:=hid hrg;have B2:=hid (below_of_none hg);have S2:=hid (S1.out.on B2.out);clear hrg hg hs)
 by_cases hx:xs=[]
 · subst hx;refine wp_loop_rounds 1 ?_;rw [rounds_succ];go_wp2_with (at_next;refine wpList_next_eM _ rfl _ rfl am w1.heap.size v 0 [] _ rfl RI2.out (fun hp=>?_) (fun w3 cnt3 hn3 _ _ _ _ _=>absurd rfl hn3))
   go_wp2_with (go_at_call 103;(with_reducible refine (HSN.out _).mono ?_);rintro e w3 ⟨rfl,rfl⟩)
   go_ret;exact ⟨rfl,S2.out⟩
 obtain ⟨f,D,hF,hD,hall⟩:=HC.out.ents HP.out hx;have HALL:=hid hall
 have hxl:xs.length<=4096:=by
  have h1:=HP.out.length_eq;have h2:=durs_len x.C;have h3:=HC.out.few;omega
 obtain ⟨hrE,hrB⟩:=readE_ok HC.out.up (nameB_file HC.out.nv) hD
 have hDl:D.length<=4194304:=by
  have:=readB_len S0.out.1.sdv.ok (fileN x.nm);rw [hrB] at this;exact this
 have hnm:=HC.out.name;obtain ⟨g,cc,rfl,hg1,hg2,hh⟩:=HV1.out hx
 have SE:Hid (SW b w0 (ebOb (.slice (some ⟨g,0,none⟩) xs.length cc) xs::x.obs l) w1):=S0.out.addNewR HB1.out (ents_of (fun e=>absurd e hx) (fun _=>⟨g,cc,rfl,hg2,hh⟩)) (fun _ h=>h) (fun i hi=>by
  have e:some g=some i:=hi;injection e with e;omega)
 have SE2:=hid (SE.out.on B2.out);have hn0:xs.length≠0:=fun e=>hx (List.eq_nil_of_length_eq_zero e);have HFN:=hid (fun (W:World) (hW:SW b w0 (ebOb (.slice (some ⟨g,0,none⟩) xs.length cc) xs::x.obs l) W)=>fileName_any x.ps x.nm W ((hW.cell 2 rfl).cell 1) hnm)
 have HRD:Hid (∀ W5,SW b w0 (ebOb (.slice (some ⟨g,0,none⟩) xs.length cc) xs::x.obs l) W5->Calls Tryz.prog 38 #[vPtr x.p,.string (fileN x.nm)] W5 (fun e w'=>∃ A n c,e= .returned (.tuple #[.slice A n c,.int .i64 0])/\n=D.length/\D.length<=c/\SW b w0 (rsOb A D::ebOb (.slice (some ⟨g,0,none⟩) xs.length cc) xs::x.obs l) w'/\Below W5.heap.size W5 w')):=fun W5 h5=>(Read_any x.p x.r x.s (fileN x.nm) W5 (h5.get 1 (o:=devOb x.p x.r x.s) rfl) (file_ok hnm)).mono (by
  rintro e w8 ⟨⟨A8,n8,c8⟩,rfl,hr8,hd8,hb8⟩;rw [hrE];rw [hrB] at hr8;exact ⟨A8,n8,c8,rfl,hr8.1.symm,hr8.1 ▸ hr8.2.1,(h5.newBytes hb8 hr8 hd8).bufRs,hb8⟩)
 clear hall hF hD hh HV0 HV1 S0 S1 S2 HM HP HB1 hrE hrB;refine wp_loop_rounds 2 ?_;rw [rounds_succ];go_wp2_with (at_next;refine wpList_next_eM _ rfl _ rfl am w1.heap.size (.slice (some ⟨g,0,none⟩) xs.length cc) xs.length [] _ rfl RI2.out (fun hp=>?_) (fun w3 cnt3 hn3 hrg3 hlt3 hg3 hs3 hen3=>halt_ ?_))
 · exfalso
   have h1:=hp.length_eq;rw [eM,if_neg hn0] at h1;simp at h1
 have B3:=hid (B2.out.grown hg3 B2.out.size (by simp));have S3:=hid (SE.out.on B3.out);have RI3:=hid hrg3;clear hrg3 hlt3 hg3 hs3 SE SE2 RI2 B2;refine hid ?_;go_upto_region 7 with fail
 have q0:w3.cell? ⟨x.ps,0,none⟩=some (vPtr x.p):=(S3.out.cell 2 rfl).cell 0;have hpl:x.ps<w3.heap.size:=(S3.out.cell 2 rfl).lt;have S3d:=hid S3.out.drew
 go_region_held (fun w'=>w'.cell? ⟨x.ps,0,none⟩=some (vPtr x.p))
  (first | go_keep | exact K5.out | exact K6.out)
  (first
    | (go_at_call 101;(with_reducible refine (HFN.out _ S3d.out).mono ?_);rintro e w7 ⟨rfl,q7,hw7⟩;have B7:=hid (after_drewD hw7);have S7:=hid (S3d.out.on B7.out);have K5:Hid (w7.cell? ⟨x.ps,0,none⟩=some (vPtr x.p)):=(S7.out.cell 2 rfl).cell 0;clear hw7)
    | (go_at_call 38;(with_reducible refine (HRD.out w7 S7.out).mono ?_);rintro e w8 ⟨A8,n8,c8,rfl,hn8,hc8,s8,hb8⟩;have S8:=hid s8;have HN8:=hid hn8;have B8:Hid (Below w3.heap.size w3 w8):=((Below.refl _ w3).drew).trans (B7.out.trans (hb8.mono B7.out.size));have K6:Hid (w8.cell? ⟨x.ps,0,none⟩=some (vPtr x.p)):=(S8.out.cell 3 rfl).cell 0;clear s8 hn8 hb8))
 have hn8:=HN8.out;subst hn8;clear HN8 K6 K5 HRD HFN q0 hpl S7 B7 S3d S3 hen3;go_wp2_with fail
 rename World=>wq;go_loopw [3,44] (fun s3 s44 wr=>∃ k:Nat,s3= .slice none 0 0/\s44= .int .i64 (k:Int)/\k<=xs.length/\SW b w0 (rsOb A8 D::ebOb (.slice (some ⟨g,0,none⟩) xs.length cc) xs::x.obs l) wr/\Below w3.heap.size w3 wr) (fun _ s44 _=>xs.length-(intOf s44).toNat)
 case atStart=>exact ⟨0,rfl,rfl,Nat.zero_le _,S8.out,B8.out⟩
 obtain ⟨k,rfl,rfl,hk,hs,hb⟩:=hrel;have S9:=hid hs;have B9:=hid hb;clear hs hb S8 B8;by_cases hlt:k<xs.length
 · obtain ⟨e,he⟩:∃ e,xs.getD k ent0=e:=⟨_,rfl⟩
   have hem:e∈xs:=by
    rw [<- he,List.getD_eq_getElem?_getD,List.getElem?_eq_getElem hlt];exact List.getElem_mem hlt
   have hcs:∀ j,j<xs.length->wr.cell? ⟨g,j*3,none⟩=some (.int .u64 (xs.getD j ent0).1.1)/\wr.cell? ⟨g,j*3+1,none⟩=some (.int .i64 (xs.getD j ent0).1.2)/\wr.cell? ⟨g,j*3+2,none⟩=some (.int .i64 (xs.getD j ent0).2):=by
    obtain ⟨g',c',e1,_,hcs⟩:=(S9.out.get 1 (o:=ebOb (.slice (some ⟨g,0,none⟩) xs.length cc) xs) rfl).2 hx;injection e1 with e1 _ _;injection e1 with e1;injection e1 with e1;rw [e1];exact hcs
   obtain ⟨a0,a1,a2⟩:=hcs k hlt;rw [he] at a0 a1 a2;obtain ⟨o,ho1,ho2,ho3,ho4,hok⟩:=HALL.out e hem;rw [ho1] at a2
   have HCU:=hid (fun (W:World) (hW:RS W A8 D)=>(cut_any A8 c8 D e.1 o W hW hDl hc8 ho2 ho3 (by omega)).mono (R':=fun e w'=>∃ (A:Option Addr) (n c:Nat),e= .returned (.tuple #[.slice A n c,.bool true])/\Below W.heap.size W w') (by
    rintro e' w' ⟨A,c,cs,rfl,_,_,_,hb⟩;rw [hok];exact ⟨A,_,c,rfl,hb⟩))
   clear he hem hcs hok ho1;have S10:=hid (S9.out.newCell 166 #[.int .u64 e.1.1,.int .i64 e.1.2,.int .i64 (o:Int)]);have B10:Hid (Below w3.heap.size w3 (wr.alloc (.cells #[.int .u64 e.1.1,.int .i64 e.1.2,.int .i64 (o:Int)] 166))):=B9.out.alloc B9.out.size _;go_upto_region 11 with fail
   generalize wr.alloc (.cells #[.int .u64 e.1.1,.int .i64 e.1.2,.int .i64 (o:Int)] 166)=W10 at S10 B10 |-; generalize wr.heap.size=H10 at S10 |-; clear a0 a1 a2 S9 B9;have a0:=(S10.out.cell 0 rfl).cell 0;have a1:=(S10.out.cell 0 rfl).cell 1;have a2:=(S10.out.cell 0 rfl).cell 2;have HC2:=hid (HCU.out W10 (S10.out.get 1 (o:=rsOb A8 D) rfl));go_wp2_with fail
   refine HC2.out.mono ?_;rintro e2 w11 ⟨A2,n2,c2,rfl,hb2⟩;have S11:=hid (S10.out.tail.on hb2);have B11:=hid (B10.out.trans (hb2.mono B10.out.size));clear hb2 S10 B10 HCU HC2 a0 a1 a2;go_wp2_with fail
   go_roundw
   case rel=>exact ⟨k+1,rfl,by go_num,by omega,S11.out,B11.out⟩
   simp [intOf];omega
 obtain rfl:k=xs.length:=by omega
 have RI9:=hid (RI3.out.on B9.out);go_wp2_with fail
 rw [rounds_succ];go_wp2_with (at_next;refine wpList_next_eM _ rfl _ rfl am w1.heap.size (.slice (some ⟨g,0,none⟩) xs.length cc) xs.length [(1,_)] _ rfl RI9.out (fun hp=>?_) (fun w4 cnt4 hn4 hrg4 hlt4 hg4 hs4 hen4=>?_))
 · go_wp2_with (go_at_call 103;(with_reducible refine (HSN.out _).mono ?_);rintro e w4 ⟨rfl,rfl⟩)
   go_ret;exact ⟨rfl,S9.out.tail.tail⟩
 exfalso
 have:=hrg4.keysN;simp at this
end
section
open Go.RowKit Go.MapKept Go.ChangeMaps Go.Shelf Go.Sort
theorem ltI_trans {a b c:ID} (h1:ltID a b=true) (h2:ltID b c=true):ltID a c=true:=by
 simp only [ltID,decide_eq_true_eq] at *; omega
theorem ltI_irr (a:ID):ltID a a=false:=by simp [ltID]
theorem ltI_asym {a b:ID} (h1:ltID a b=true):ltID b a=false:=by
 simp only [ltID,decide_eq_true_eq,decide_eq_false_iff_not] at *; omega
theorem ltI_tri {a b:ID} (h1:ltID a b=false) (h2:a≠b):ltID b a=true:=by
 obtain ⟨a1,a2⟩:=a;obtain ⟨b1,b2⟩:=b;simp only [ltID,decide_eq_true_eq,decide_eq_false_iff_not] at *; have:¬ (a1=b1/\a2=b2):=fun h=>h2 (by rw [h.1,h.2]);omega
abbrev SortE (E:List RE):Prop:=E.Pairwise fun a b=>ltID a.id b.id=true
theorem atI_split (E:List RE) (i:ID):E.take (atI E i)=E.takeWhile (fun e=>ltID e.id i)/\E.drop (atI E i)=E.dropWhile (fun e=>ltID e.id i):=by
 have h:=List.takeWhile_append_dropWhile (p:=fun e:RE=>ltID e.id i) (l:=E);unfold atI;constructor
 · conv=>lhs;rw [<- h]
   rw [List.take_left'];rw [h]
 conv=>lhs;rw [<- h]
 rw [List.drop_left'];rw [h]
theorem tw_lt {E:List RE} {i:ID} {e:RE} (h:e∈E.takeWhile (fun e=>ltID e.id i)):ltID e.id i=true:=by
 induction E with
 | nil=>cases h
 | cons x E ih=>
  rw [List.takeWhile_cons] at h;split at h
  · rename_i hx
    rcases List.mem_cons.1 h with rfl | h
    · exact hx
    exact ih h
  cases h
theorem dw_ge {E:List RE} (hs:SortE E) {i:ID} {e:RE} (h:e∈E.dropWhile (fun e=>ltID e.id i)):ltID e.id i=false:=by
 induction E with
 | nil=>cases h
 | cons x E ih=>
  obtain ⟨h1,h2⟩:=List.pairwise_cons.1 hs;rw [List.dropWhile_cons] at h;split at h
  · exact ih h2 h
  rename_i hx
  have hx:ltID x.id i=false:=by simpa using hx
  rcases List.mem_cons.1 h with rfl | h
  · exact hx
  cases hc:ltID e.id i with
  | false=>rfl
  | true=>
   have:=ltI_trans (h1 e h) hc;rw [hx] at this;cases this
theorem hasAt_iff {E:List RE} (hs:SortE E) (i:ID):hasAt E i=true↔i∈E.map (·.id):=by
 obtain ⟨h1,h2⟩:=atI_split E i
 have hd:E[atI E i]? =(E.dropWhile (fun e=>ltID e.id i)).head? :=by
  rw [<- h2,List.head?_drop]
 unfold hasAt;rw [hd];constructor
 · intro h;split at h
   · rename_i e he
     have hm:e∈E:=(List.dropWhile_sublist _).subset (List.mem_of_head? he);exact List.mem_map.2 ⟨e,hm,of_decide_eq_true h⟩
   cases h
 intro h;obtain ⟨e,he,hi⟩:=List.mem_map.1 h
 have hin:e∈E.dropWhile (fun e=>ltID e.id i):=by
  rw [<- List.takeWhile_append_dropWhile (p:=fun e:RE=>ltID e.id i) (l:=E)] at he;rcases List.mem_append.1 he with he | he
  · have:=tw_lt he;rw [hi,ltI_irr] at this;cases this
  exact he
 cases hdw:E.dropWhile (fun e=>ltID e.id i) with
 | nil=>rw [hdw] at hin;cases hin
 | cons x D=>
  simp only [List.head?_cons];have hxi:ltID x.id i=false:=dw_ge hs (by rw [hdw];exact zA ..);rw [decide_eq_true_eq];rw [hdw] at hin;rcases List.mem_cons.1 hin with rfl | hin
  · exact hi
  have hsd:SortE (x::D):=by rw [<- hdw];exact hs.sublist (List.dropWhile_sublist _)
  have:=(List.pairwise_cons.1 hsd).1 e hin;rw [hi] at this;rw [this] at hxi;cases hxi
def putE (E:List RE) (e:RE):List RE:=E.take (atI E e.id)++e::E.drop (atI E e.id)
theorem putE_mem {E:List RE} {e f:RE}:f∈putE E e↔f=e∨f∈E:=by
 unfold putE;have h:f∈E↔f∈E.take (atI E e.id)∨f∈E.drop (atI E e.id):=by rw [<- zB,List.take_append_drop]
 rw [h];simp only [zB,List.mem_cons];constructor
 · rintro (h | h | h)<;>simp [h]
 rintro (h | h | h)<;>simp [h]
theorem putE_sort {E:List RE} (hs:SortE E) {e:RE} (hn:e.id ∉ E.map (·.id)):SortE (putE E e):=by
 obtain ⟨h1,h2⟩:=atI_split E e.id;unfold putE;rw [h1,h2];have hs':=hs;rw [<- List.takeWhile_append_dropWhile (p:=fun f:RE=>ltID f.id e.id) (l:=E)] at hs';obtain ⟨p1,p2,p3⟩:=List.pairwise_append.1 hs';refine List.pairwise_append.2 ⟨p1,List.pairwise_cons.2 ⟨fun f hf=>?_,p2⟩,fun a ha f hf=>?_⟩
 · refine ltI_tri (dw_ge hs hf) (fun e'=>hn ?_);rw [<- e'];exact List.mem_map.2 ⟨f,(List.dropWhile_sublist _).subset hf,rfl⟩
 rcases List.mem_cons.1 hf with rfl | hf
 · exact tw_lt ha
 exact p3 a ha f hf
structure RTX (r:R3) (P:List (List UInt8)):Prop where
 sort:SortE r.E
 has:∀ i,i∈r.ids↔i∈P.map fpOf
 val:∀ e∈r.E,fpOf e.bs=e.id/\IsText e.bs
theorem RTX.put {r r':R3} {P:List (List UInt8)} (h:RTX r P) {bs:List UInt8} (ht:IsText bs) {d:BD} (he:r'.E=putE r.E ⟨fpOf bs,d,bs,true⟩) (hn:hasAt r.E (fpOf bs)=false):RTX r' (P++[bs]):=by
 have hni:fpOf bs ∉ r.ids:=fun hm=>by
  rw [(hasAt_iff h.sort _).2 hm] at hn;cases hn
 refine ⟨?_,fun i=>?_,fun e hm=>?_⟩
 · rw [he];exact putE_sort h.sort hni
 · show i∈r'.E.map (·.id)↔_;rw [he];have hh:=h.has i;simp only [List.map_append,List.map_cons,List.map_nil,zB,List.mem_singleton, <- hh,List.mem_map];constructor
   · rintro ⟨f,hf,rfl⟩;rcases putE_mem.1 hf with rfl | hf
     · exact .inr rfl
     exact .inl ⟨f,hf,rfl⟩
   rintro (⟨f,hf,rfl⟩ | rfl)
   · exact ⟨f,putE_mem.2 (.inr hf),rfl⟩
   exact ⟨_,putE_mem.2 (.inl rfl),rfl⟩
 rw [he] at hm;rcases putE_mem.1 hm with rfl | hm
 · exact ⟨rfl,ht⟩
 exact h.val e hm
theorem sorted_uniq:∀ {a b:List ID},a.Pairwise (fun x y=>ltID x y=true)->b.Pairwise (fun x y=>ltID x y=true)->(∀ i,i∈a↔i∈b)->a=b
 | [],[],_,_,_=>rfl
 | [],y::b,_,_,h=>absurd ((h y).2 (zA ..)) (by simp)
 | x::a,[],_,_,h=>absurd ((h x).1 (zA ..)) (by simp)
 | x::a,y::b,ha,hb,h=>by
  obtain ⟨a1,a2⟩:=List.pairwise_cons.1 ha;obtain ⟨b1,b2⟩:=List.pairwise_cons.1 hb
  have exy:x=y:=by
   rcases List.mem_cons.1 ((h x).1 (zA ..)) with e | hx
   · exact e
   rcases List.mem_cons.1 ((h y).2 (zA ..)) with e | hy
   · exact e.symm
   have:=ltI_asym (b1 x hx);rw [a1 y hy] at this;cases this
  subst exy
  have:a=b:=sorted_uniq a2 b2 (fun i=>⟨fun hi=>by
   rcases List.mem_cons.1 ((h i).1 (List.mem_cons_of_mem _ hi)) with e | h1
   · have:=a1 i hi;rw [e,ltI_irr] at this;cases this
   · exact h1,fun hi=>by
   rcases List.mem_cons.1 ((h i).2 (List.mem_cons_of_mem _ hi)) with e | h1
   · have:=b1 i hi;rw [e,ltI_irr] at this;cases this
   exact h1⟩)
  rw [this]
theorem strict_of_sorted {a:List ID} (hs:SortedI a) (hn:a.Nodup):a.Pairwise (fun x y=>ltID x y=true):=by
 refine (hs.and hn).imp (fun h=>?_);exact ltI_tri h.1 (fun e=>h.2 e.symm)
end
end Go.Proofs.YteabgcollokgjaaGreatDoor
